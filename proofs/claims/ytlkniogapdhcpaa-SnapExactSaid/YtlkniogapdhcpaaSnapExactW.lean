/- SnapExact: while machines add, by whatever turns, an exact answer is the counter's sum at some step of the count at which all that was begun is done. -/
import Derived.Test.YtlkniogapdhcpaaSnapY
import Derived.Test.YtlkniogapdhcpaaLawSixE
import Derived.Test.YtlkniogapdhcpaaHeadSix
import Derived.Test.YtlkniogapdhcpaaRowSix
import Derived.Test.YtlkniogapdhcpaaRowMany
import Derived.Test.YtlkniogapdhcpaaAddSum
namespace Go.Proofs.Ytlkniogapdhcpaa
open Go.RowKit
set_option linter.unusedVariables false
set_option linter.unusedSimpArgs false
set_option maxRecDepth 100000
@[go_sem] theorem field_ans8_1 (x0 x1 x2 x3 : Value) (w : World) : (Instr.field 45 (.agg #[x0, x1, x2, x3]) 1).run Try.prog w = .ok x1 w := by kernel_rfl
@[go_sem] theorem field_ans8_2 (x0 x1 x2 x3 : Value) (w : World) : (Instr.field 45 (.agg #[x0, x1, x2, x3]) 2).run Try.prog w = .ok x2 w := by kernel_rfl
theorem info_aptr8 : (Try.prog.info? 64).map (fun i => (i.zero, i.size, i.bytes)) = some (some (.pointer none), 1, 8) := by kernel_rfl
theorem info_bool8 : (Try.prog.info? 4).map (fun i => (i.zero, i.size, i.bytes)) = some (some (.bool false), 1, 1) := by kernel_rfl
theorem made_bools8 (n : Nat) : madeCells (Value.bool false).cells n = (List.replicate n (Value.bool false)).toArray := by
  apply Array.ext
  · simp [madeCells]
  · intro i h1 h2
    have e : i % 1 = 0 := Nat.mod_one i
    simp [madeCells, Value.cells, e]
theorem laid_one {w w1 : World} {m a : Nat} {lv : Value} {W : List Int} (hk : Keep0 w w1) (hm : MemAt w.heap.size w1 m a lv W []) (hzm : w.heap.size ≤ m) (hza : w.heap.size ≤ a) : St w [memO w.heap.size m W []] w1 :=
  St.one (R := MF m a lv) hk ⟨a, lv, hm, fun _ => Iff.rfl⟩ (fun k h => by
    rcases h with rfl | rfl | h
    · exact hzm
    · exact hza
    · exact (hm.log.lt k h).1)
theorem bools_start {ms : List Am} {n : Nat} (hl : ms.length = n) (h : ∀ i (hi : i < ms.length), ms[i].t.st = 0) : Array.replicate n (Value.bool false) = (ms.map (fun p => Value.bool (decide (p.t.st = 9)))).toArray := by
  apply Array.ext
  · simp [hl]
  · intro i h1 h2
    simp only [List.getElem_toArray, List.getElem_map, Array.getElem_replicate]
    rw [h i (by simpa using h2)]
    rfl
theorem bools_set (ms : List Am) (k : Nat) (t' : AS) (hk : k < ms.length) {v : Bool} (hv : v = decide (t'.st = 9)) : (ms.set k ⟨ms[k].x, ms[k].d, t'⟩).map (fun p => Value.bool (decide (p.t.st = 9))) = (ms.map (fun p => Value.bool (decide (p.t.st = 9)))).set k (.bool v) := by
  rw [List.map_set, hv]
theorem ptrs_set (ms : List Am) (k : Nat) (t' : AS) (hk : k < ms.length) : (ms.set k ⟨ms[k].x, ms[k].d, t'⟩).map (fun p => ptr p.x) = ms.map (fun p => ptr p.x) := by
  rw [List.map_set]
  apply List.ext_getElem
  · simp
  · intro i h1 h2
    by_cases e : k = i
    · subst e; simp
    · rw [List.getElem_set_ne e]
theorem ints_app8 (l : List Int) (x : Int) : ints (l ++ [x]) = ints l ++ [i64 x] := by simp [ints]
theorem perm6 {α : Type _} (a b c d e f : α) : [a, b, c, d, e, f].Perm [a, e, b, c, d, f] := (pick_perm [b, c, d, e, f] 3 (by simp)).cons a
theorem perm6' {α : Type _} (a b c d e f : α) : [a, e, b, c, d, f].Perm [a, b, c, d, e, f] := (perm6 a b c d e f).symm
set_option maxHeartbeats 8000000 in
theorem snapExact_walk {w : World} {v0 v1 v3 : Value} (hc : CounterIn w v0) (h1 : ∃ l, KsIn .i32 w v1 l ∧ ∀ i, i < l.length → -2147483648 ≤ rd l i ∧ rd l i ≤ 2147483647) (retry : Int) (hretry : (Lit.int .u8 retry).wf = true) (h3 : ∃ l, KsIn .u8 w v3 l ∧ ∀ i, i < l.length → 0 ≤ rd l i ∧ rd l i ≤ 255) : Calls Try.prog 8 #[v0, v1, .int .u8 retry, v3] w (Ret (.bool true) w) := by
  have hretry := bounds_u8 hretry
  obtain ⟨D, ⟨DA, dc, rfl, hD63, hD⟩, hDb⟩ := h1
  obtain ⟨PK, ⟨PA, pc, rfl, hP63, hP⟩, hPb⟩ := h3
  have HD := hid hD
  have HDB := hid hDb
  have HP := hid hP
  have HPB := hid hPb
  clear hD hDb hP hPb
  obtain ⟨ba, sr, ga, gl, li, VA, V, vc, UA, U, uc, rfl, h0, h1, h2, h3, h4, hV, hv1, hvb, hU, hu1, hub⟩ := hc
  obtain ⟨b, hb⟩ : ∃ b : Nat, (b : Int) = ba % 8 := ⟨(ba % 8).toNat, by omega⟩
  have hz1 := sz4_bd sr
  have hz2 := sz4_bd li
  obtain ⟨s, hs⟩ : ∃ s : Nat, (s : Int) = sz4 sr := ⟨(sz4 sr).toNat, by omega⟩
  obtain ⟨g, hg⟩ : ∃ g : Nat, (g : Int) = ga % 40 + 1 := ⟨(ga % 40 + 1).toNat, by omega⟩
  obtain ⟨l, hl⟩ : ∃ l : Nat, (l : Int) = min (sz4 li) (sz4 sr) := ⟨(min (sz4 li) (sz4 sr)).toNat, by omega⟩
  have HP2 := hid (show p2 (s : Int) ∧ p2 (l : Int) ∧ (l : Int) ≤ s from ⟨by rw [hs]; exact sz4_p2 _, by rw [hl]; exact (p2_min (sz4_p2 _) (sz4_p2 _)).1, by rw [hl, hs]; exact (p2_min (sz4_p2 _) (sz4_p2 _)).2⟩)
  have hbb : b ≤ 7 := by omega
  have hss : 1 ≤ s ∧ s ≤ 8 := by omega
  have hgg : 1 ≤ g ∧ g ≤ 40 := by omega
  have hll : 1 ≤ l ∧ l ≤ 8 := by omega
  have HSZ := hid (fun w' => law6_Size ba sr ga gl li VA V.length vc UA U.length uc w' h0 h1 h2 h4)
  rw [← hl, ← hb, ← hs, ← hg] at HSZ
  have HWO := hid (fun (w' : World) (hk : Keep0 w w') hv hu => law6_Words ba sr ga gl li VA V vc UA U uc w' b s g l h0 h1 h2 h4 h3 (hV.keep hk) (hU.keep hk) hv hu hvb hub hb hs hg hl)
  skip
  have HK0 : Hid (Keep0 w (w.alloc (.cells #[.int .u8 ba, .int .u8 sr, .int .u16 ga, .int .i32 gl, .int .u8 li, .slice VA V.length vc, .slice UA U.length uc] 26))) := hid ((Keep.refl _ _).alloc _)
  clear hV hU hv1 hu1 hvb hub h0 h1 h2 h4 hb hs hg hl hz1 hz2
  have hr0 : 0 ≤ retry % 8 := Int.emod_nonneg _ (by omega)
  have hr1 : retry % 8 < 8 := Int.emod_lt_of_pos _ (by omega)
  obtain ⟨r, hrr⟩ : ∃ r : Nat, (r : Int) = retry % 8 + 1 := ⟨(retry % 8 + 1).toNat, by omega⟩
  have hr8 : 1 ≤ r ∧ r ≤ 8 := by omega
  have yr1 : IntKind.i64.wrap (retry % 8 + 1) = (r : Int) := by rw [hrr]; exact IntWalk.i64_in _ (by omega)
  have yr2 : retry.tmod 8 = retry % 8 := Int.tmod_eq_emod_of_nonneg hretry.1
  clear hrr hr0 hr1
  go_enter Try.func8, Try.ntmps8
  go_wp2_with fail
  have HB : Hid (Blk (w.alloc (.cells #[.int .u8 ba, .int .u8 sr, .int .u16 ga, .int .i32 gl, .int .u8 li, .slice VA V.length vc, .slice UA U.length uc] 26)) w.heap.size 26 [.int .u8 ba, .int .u8 sr, .int .u16 ga, .int .i32 gl, .int .u8 li, .slice VA V.length vc, .slice UA U.length uc]) := hid (Blk.made rfl rfl)
  have qHB := HB.out.k7
  refine (law7_head _).mono ?_
  rintro e w1 ⟨rfl, hk⟩
  have HK1 : Hid (Keep0 w w1) := hid (Keep0.step (by repeat (with_reducible first | exact Keep.refl _ _ | exact HK0.out | apply Keep.alloc | apply Keep.drewN | apply Keep.drew)) hk)
  have THB := hk.blk (show Blk _ _ _ _ from by repeat (with_reducible first | exact HB.out | apply Blk.alloc | apply Blk.drewN | apply Blk.drew)) (fun h => h)
  clear hk qHB HB HK0
  have HB := hid THB
  clear THB
  have qHB := HB.out.k7
  by_cases hgd0 : 6 < D.length
  · go_wp2_with fail
    go_ret
    exact ⟨rfl, HK1.out⟩
  by_cases hgd1 : 400 < PK.length
  · go_wp2_with fail
    go_ret
    exact ⟨rfl, HK1.out⟩
  by_cases hgd2 : 20 < V.length
  · go_wp2_with fail
    go_ret
    exact ⟨rfl, HK1.out⟩
  by_cases hgd3 : 20 < U.length
  · go_wp2_with fail
    go_ret
    exact ⟨rfl, HK1.out⟩
  go_wp2_with fail
  refine (HSZ.out _).mono ?_
  rintro e w2 ⟨rfl, hk⟩
  have HK2 : Hid (Keep0 w w2) := hid (Keep0.step (by repeat (with_reducible first | exact Keep.refl _ _ | exact HK1.out | apply Keep.alloc | apply Keep.drewN | apply Keep.drew)) hk)
  have THB := hk.blk (show Blk _ _ _ _ from by repeat (with_reducible first | exact HB.out | apply Blk.alloc | apply Blk.drewN | apply Blk.drew)) (fun h => h)
  clear hk qHB HB HK1
  have HB := hid THB
  clear THB
  have qHB := HB.out.k7
  clear HSZ
  go_wp2_with fail
  refine (HWO.out _ (by repeat (with_reducible first | exact Keep.refl _ _ | exact HK2.out | apply Keep.alloc | apply Keep.drewN | apply Keep.drew)) (by omega) (by omega)).mono ?_
  rintro e w3 ⟨wg, rfl, hwg, hk, hwge⟩
  generalize hN : b + 4 + s + 3 = N at *
  have HWF := hid (wf6 b s g gl l V U hgg)
  generalize words6 b g (zero6 b s gl l) V U s = WW at *
  have HN := hid hN
  have hln : WW.length = N := HWF.out.ln.trans hN
  have hN1 : b + 4 + s ≤ N := by omega
  have hN2 : N ≤ 22 := by omega
  clear hN
  have HWG := hid (Blk.ints hwg)
  have hwz : w.heap.size ≤ wg := Nat.le_trans HK2.out.size (by simpa using hwge)
  have HK3 : Hid (Keep0 w w3) := hid (Keep0.step (by repeat (with_reducible first | exact Keep.refl _ _ | exact HK2.out | apply Keep.alloc | apply Keep.drewN | apply Keep.drew)) hk)
  have THB := hk.blk (show Blk _ _ _ _ from by repeat (with_reducible first | exact HB.out | apply Blk.alloc | apply Blk.drewN | apply Blk.drew)) (fun h => h)
  clear hk qHB HB HK2
  have HB := hid THB
  clear THB
  have qHB := HB.out.k7
  clear hwg HWO hwge
  clear qHB HB
  go_wp2_with fail
  refine (law7_laid w.heap.size _ wg _ N WW HWG.out hln.symm (by omega) (by have := HK3.out.size; omega)).mono ?_
  rintro e w4 ⟨m, a, lv, rfl, hm, hk, hzm, hza⟩
  have hzm' : w.heap.size ≤ m := Nat.le_trans HK3.out.size hzm
  have hza' : w.heap.size ≤ a := Nat.le_trans HK3.out.size hza
  have hwgm : wg ≠ a := by have := HWG.out.lt; omega
  have HK4 : Hid (Keep0 w w4) := hid (Keep0.step (by repeat (with_reducible first | exact Keep.refl _ _ | exact HK3.out | apply Keep.alloc | apply Keep.drewN | apply Keep.drew)) hk)
  have THWG := hk.ints (show Ints _ _ _ from by repeat (with_reducible first | exact HWG.out | apply Ints.alloc | apply Ints.drewN | apply Ints.drew)) (fun h => h)
  clear hk HWG HK3
  have HWG := hid THWG
  clear THWG
  have HM := hid hm
  clear hm hzm hza
  clear HWG
  have hs0 := laid_one HK4.out HM.out hzm' hza'
  have HS := hid hs0
  have hl1 : b + 4 + s ≤ WW.length := by omega
  have hl2 : WW.length ≤ 22 := by omega
  have HMI := hid (fun (d : Int) (x7 : Nat) (hd : -1048576 < d ∧ d < 1048576) (hx : (x7 : Int) < 4294967296) => (show MI6 b s g d ⟨WW, [], 0, (x7 : Int), 0, 0, 0, 0⟩ from ⟨AInv.start (by omega) (by omega) HP2.out.1 (by omega) (by omega) (by rw [HWF.out.lv]; exact HP2.out.2) (by omega), fun h => by simp at h⟩))
  have hbg := HWF.out.bg
  have hdn := HWF.out.dn
  have hgl := HWF.out.gl
  have HW3 := hid (And.intro hbg (And.intro hdn hgl))
  have HLN := hid hln
  have h3b : -2147483648 ≤ gl ∧ gl ≤ 2147483647 := h3
  clear hs0 HM HK4 hzm' hza' hln hbg hdn hgl HWF h3
  go_wp2_with fail
  obtain ⟨i0, hti, hz0, hz1, hz2⟩ := info_parts info_aptr8
  have HI := hid hti
  clear hti
  go_loopw [15, 16] (fun v15 v16 wr => ∃ j : Nat, j ≤ D.length ∧ v16 = .int .i64 j ∧ ∃ A1 c1 ms, v15 = .slice A1 j c1 ∧ ms.length = j ∧ (∀ i (h : i < ms.length), MI6 b s g ms[i].d (ms[i].at WW []) ∧ ms[i].t.st = 0) ∧ obs ms = 0 ∧ St w [rowO 64 1 (.slice A1 j c1) j (ms.map (fun p => ptr p.x)), grp (amO b s g) ms, memO w.heap.size m WW []] wr) (fun _ v _ => D.length - (intOf v).toNat)
  case atStart => exact ⟨0, Nat.zero_le _, rfl, none, 0, [], rfl, rfl, fun i h => by simp at h, rfl, St.nw (St.grp0 (amO b s g) HS.out) (rowO_nil 64 1 _)⟩
  case round =>
    obtain ⟨j, hj, rfl, A1, c1, ms, rfl, hml, hmi, hob, hs⟩ := hrel
    clear HS
    have HS := hid hs
    have HML := hid hml
    have HMS := hid hmi
    have HOB := hid hob
    clear hs hml hmi hob
    by_cases hlt : j < D.length
    · obtain ⟨db, dof, rfl, hdc⟩ := (HD.out.keep HS.out.k).cell (by omega)
      have hcl := hdc j hlt
      have hlz := World.block_lt_of_cell? _ _ hcl
      simp only at hlz
      have hbd := HDB.out j hlt
      obtain ⟨dd, hdd⟩ : ∃ dd, (rd D j).tmod 1048576 = dd := ⟨_, rfl⟩
      have hdb := tmod_bd (rd D j) 1048576 (by omega)
      rw [hdd] at hdb
      have y1 : IntKind.i64.wrap (rd D j) = rd D j := IntWalk.i64_in _ (by omega)
      have y2 : IntKind.i64.wrap dd = dd := IntWalk.i64_in _ (by omega)
      obtain ⟨x7, hx7⟩ : ∃ n : Nat, (n : Int) = dBegin (j : Nat) := ⟨(dBegin (j : Nat)).toNat, Int.toNat_of_nonneg (dBegin_bd _).1⟩
      have hbx : (x7 : Int) < 4294967296 := by rw [hx7]; exact (dBegin_bd _).2
      have HX7 := hid hx7
      have HBX := hid hbx
      clear hdc hx7 hbx
      go_wp2_with fail
      refine Calls.mono (St.newx (q := fun x => amO b s g ⟨x, dd, ⟨WW, [], 0, (x7 : Int), 0, 0, 0, 0⟩⟩) (show St w [rowO 64 1 (.slice A1 j c1) j (ms.map (fun p => ptr p.x)), grp (amO b s g) ms, memO w.heap.size m WW []] _ from HS.out) (amO_New b s g dd j _ (by omega) x7 HX7.out WW [])) ?_
      rintro e w1 ⟨x, rfl, hs⟩
      clear HS hcl hlz hdd
      have HS := hid hs
      obtain ⟨_, ⟨ho, _⟩, _⟩ := St.get (St.pick hs 1 (by simp))
      have HO := hid ho
      clear hs ho
      go_wp2_with (at_builtin; refine wpl_append_own ?a1 (.tmp 63) (.tmp 75) 68 ?a2 (0) 64 i0 ?z2 1 8 ?a3 ?a4 ?a5 ?a6 ?a7 ?a8 ?a9 (.slice A1 j c1) (j) (ms.map (fun p => ptr p.x)) ?a10 ?hown (⟨w1.heap.size, 0, none⟩) (1) (1) ([ptr x]) ?a11 ?a12 ?hnews ?hone ?h63 ?hby ?hbase ?_; (case a1 => rfl); (case a2 => rfl); (case a3 => exact Try.underlying68); (case a4 => exact HI.out); (case a5 => exact hz0); (case a6 => exact hz1); (case a7 => exact hz2); (case a8 => rfl); (case a9 => decide); (case a10 => rfl); (case a11 => rfl); (case a12 => rfl); (case hown => exact ownsRow_keep (S := fun _ => False) HO.out (by repeat (with_reducible first | exact Keep.refl _ _ | apply Keep.alloc | apply Keep.drew)) (fun _ _ h => h)); (case h63 => unfold maxLen; omega); (case hby => omega); (case hnews => exact news_at (Blk.made (by simp) rfl)); (case hone => simp [Value.oneCell']); (case hbase => omega); intro A9 c9 w9 hown9 hg9 hsl9; have HS9 := hid (St.tr (St.pick HS.out 1 (by simp)) (fun R hr => rowO_app hr ((Keep.refl _ _).alloc _) hown9 hg9 hsl9.1)); clear hown9 hg9 hsl9 HS HO)
      go_roundw
      case rel =>
        refine ⟨j + 1, by omega, by go_num, A9, c9, ms ++ [⟨x, dd, ⟨WW, [], 0, (x7 : Int), 0, 0, 0, 0⟩⟩], rfl, by rw [List.length_append, HML.out]; rfl, ?_, by rw [obs_app, HOB.out]; rfl, ?_⟩
        · intro i hi
          by_cases e : i < ms.length
          · rw [List.getElem_append_left e]; exact HMS.out i e
          · rw [List.getElem_append_right (by omega)]
            simp only [List.getElem_singleton]
            exact ⟨HMI.out dd x7 (by omega) HBX.out, by first | trivial | rfl⟩
        · have h := HS9.out
          have h2 := St.perm h (List.Perm.swap _ _ _)
          have h3 : St w [amO b s g ⟨x, dd, ⟨WW, [], 0, (x7 : Int), 0, 0, 0, 0⟩⟩, grp (amO b s g) ms, rowO 64 1 (.slice A9 (j + 1) c9) (j + 1) (ms.map (fun p => ptr p.x) ++ [ptr x]), memO w.heap.size m WW []] w9 := St.perm h2 ((List.Perm.swap _ _ _).cons _)
          have h4 := St.snoc h3
          rw [List.map_append]
          exact St.perm h4 (List.Perm.swap _ _ _)
      case measure => simp [intOf]; omega
    · obtain rfl : j = D.length := by omega
      clear hlt hj
      have HS0 := hid (show St w [rowO 64 1 (.slice A1 D.length c1) D.length (ms.map (fun p => ptr p.x)), grp (amO b s g) ms, memO w.heap.size m WW []] wr from HS.out)
      clear HS
      have HS := HS0
      clear HS0
      obtain ⟨w90, hw90⟩ : ∃ v, v = wr := ⟨_, rfl⟩
      rw [← hw90] at HS ⊢
      clear hw90
      go_wp2_with fail
      refine Calls.mono (St.newx (q := fun x => snO b s x (⟨WW, [], (r : Int), [], 0, false, false⟩ : SN)) (show St w [rowO 64 1 (.slice A1 D.length c1) D.length (ms.map (fun p => ptr p.x)), grp (amO b s g) ms, memO w.heap.size m WW []] _ from (show St w [rowO 64 1 (.slice A1 D.length c1) D.length (ms.map (fun p => ptr p.x)), grp (amO b s g) ms, memO w.heap.size m WW []] _ from by repeat (with_reducible first | exact HS.out | apply St.alloc | apply St.drewN | apply St.drew))) (snO_New b s (r : Int) _ WW [] (by omega) (by omega))) ?_
      rintro e w91 ⟨x, rfl, hs⟩
      clear HS
      have HS := hid (show St w [snO b s x (⟨WW, [], (r : Int), [], 0, false, false⟩ : SN), rowO 64 1 (.slice A1 D.length c1) D.length (ms.map (fun p => ptr p.x)), grp (amO b s g) ms, memO w.heap.size m WW []] w91 from hs)
      clear hs
      obtain ⟨ib0, hib, hb0, hb1, hb2⟩ := info_parts info_bool8
      have hmk := fun w => run_make (P := Try.prog) w 69 4 ib0 (.bool false) Try.underlying69 hib hb0 .i64 .i64 (D.length : Int) (D.length : Int) (by omega) (by omega) (by rw [hb2]; omega) (by omega)
      simp only [hb1, Nat.mul_one, made_bools8, Int.toNat_natCast] at hmk
      clear hib hb0 hb1 hb2
      go_wp2_with fail
      clear hmk
      obtain ⟨w92, hw92⟩ : ∃ v, v = w91.alloc (.cells (Array.replicate D.length (Value.bool false)) 4) := ⟨_, rfl⟩
      rw [← hw92]
      obtain ⟨ob, hob⟩ : ∃ v, v = w91.heap.size := ⟨_, rfl⟩
      rw [← hob]
      have hs := St.nw HS.out (Nw.blk (w' := w92) (b := ob) (T := 4) (cs := ms.map (fun p => Value.bool (decide (p.t.st = 9)))) (by rw [hw92, hob]; exact Blk.made rfl (bools_start HML.out (fun i h => (HMS.out i h).2))) (by rw [hw92]; exact (Keep.refl _ _).alloc _) (by omega))
      clear HS hw92 hob
      have HS := hid hs
      clear hs
      have hxt : XT b s g N 0 WW [] ms (⟨WW, [], (r : Int), [], 0, false, false⟩ : SN) false [] := ⟨⟨fun i h => (HMS.out i h).1, HLN.out, by rw [HW3.out.1, HW3.out.2.1, HOB.out]; rfl, by rw [HW3.out.2.2]; omega, by rw [HW3.out.1]; simp, by rw [HW3.out.2.1]; simp⟩, XI.nil, NInv.start (by omega) (by omega) hss (by omega), rfl, rfl, rfl, fun h => absurd rfl h, Nat.le_refl _, Nat.le_refl _⟩
      have HXT := hid hxt
      clear hxt
      have hs := St.nw HS.out (rowO_nil 3 1 _)
      have HS9 := hid (show St w [rowO 3 1 (.slice none 0 0) 0 (ints []), Ass.blk ob 4 (ms.map (fun p => Value.bool (decide (p.t.st = 9)))), snO b s x (⟨WW, [], (r : Int), [], 0, false, false⟩ : SN), rowO 64 1 (.slice A1 D.length c1) D.length (ms.map (fun p => ptr p.x)), grp (amO b s g) ms, memO w.heap.size m WW []] w92 from hs)
      clear hs HS
      have HS := HS9
      clear HS9
      have HS9 := hid (show St w [memO w.heap.size m WW [], grp (amO b s g) ms, Ass.blk ob 4 (ms.map (fun p => Value.bool (decide (p.t.st = 9)))), rowO 64 1 (.slice A1 D.length c1) D.length (ms.map (fun p => ptr p.x)), snO b s x (⟨WW, [], (r : Int), [], 0, false, false⟩ : SN), rowO 3 1 (.slice none 0 0) 0 (ints [])] w92 from (show St w [memO w.heap.size m WW [], grp (amO b s g) ms, Ass.blk ob 4 (ms.map (fun p => Value.bool (decide (p.t.st = 9)))), rowO 64 1 (.slice A1 D.length c1) D.length (ms.map (fun p => ptr p.x)), snO b s x (⟨WW, [], (r : Int), [], 0, false, false⟩ : SN), rowO 3 1 (.slice none 0 0) 0 (ints [])] w92 from (St.pick (St.pick (St.pick (St.pick (St.pick (show St w [rowO 3 1 (.slice none 0 0) 0 (ints []), Ass.blk ob 4 (ms.map (fun p => Value.bool (decide (p.t.st = 9)))), snO b s x (⟨WW, [], (r : Int), [], 0, false, false⟩ : SN), rowO 64 1 (.slice A1 D.length c1) D.length (ms.map (fun p => ptr p.x)), grp (amO b s g) ms, memO w.heap.size m WW []] w92 from by repeat (with_reducible first | exact HS.out | apply St.alloc | apply St.drewN | apply St.drew)) 2 (by simp)) 3 (by simp)) 3 (by simp)) 4 (by simp)) 5 (by simp))))
      clear HS HMS HOB
      have HML2 := HML
      clear HMI
      go_loopw [19, 20, 21] (fun v19 v20 v21 wr => ∃ i : Nat, i ≤ PK.length ∧ v21 = .int .i64 i ∧ ∃ (on : Bool) (A2 : Option Addr) (c2 : Nat) (sums : List Int) (ms : List Am) (t : SN), v19 = .bool on ∧ v20 = .slice A2 sums.length c2 ∧ ms.length = D.length ∧ XT b s g N i t.W t.L ms t on sums ∧ St w [memO w.heap.size m t.W t.L, grp (amO b s g) ms, Ass.blk ob 4 (ms.map (fun p => Value.bool (decide (p.t.st = 9)))), rowO 64 1 (.slice A1 D.length c1) D.length (ms.map (fun p => ptr p.x)), snO b s x t, rowO 3 1 (.slice A2 sums.length c2) sums.length (ints sums)] wr) (fun _ _ v _ => PK.length - (intOf v).toNat)
      case atStart => exact ⟨0, Nat.zero_le _, rfl, false, none, 0, [], ms, (⟨WW, [], (r : Int), [], 0, false, false⟩ : SN), rfl, rfl, HML2.out, HXT.out, HS9.out⟩
      case round =>
        clear HXT HML HML2 HS9
        obtain ⟨i, hi, rfl, on, A2, c2, sums, ms, t, rfl, rfl, hml, hxt, hs⟩ := hrel
        have HS := hid hs
        have HXT := hid hxt
        have HML := hid hml
        have HWN := hid hxt.ei.ln
        have hwn : t.W.length ≤ 22 := by rw [hxt.ei.ln]; omega
        have hnw : b + 4 + s ≤ N := by rw [← hxt.ei.ln]; exact hxt.ni.ln
        have hN22 : N ≤ 22 := by rw [← hxt.ei.ln]; exact hwn
        have hsl : sums.length ≤ i := hxt.sn
        have hlc : t.L.length ≤ i := hxt.cnt
        clear hs hxt hml
        by_cases hlt : i < PK.length
        · obtain ⟨pb, po, hpa, hpc⟩ := HP.out.cell (by omega)
          subst hpa
          have HPC := hid (hpc i hlt)
          have HPZ := hid (show pb < w.heap.size from by have h := World.block_lt_of_cell? _ _ (hpc i hlt); simpa using h)
          clear hpc
          obtain ⟨_, ⟨ma, mlv, hm, _⟩, _⟩ := St.get HS.out
          have hwd := mem_Words hm (by omega)
          rw [HWN.out] at hwd
          clear hm
          have HWD := hid hwd
          clear hwd
          go_wp2_with fail
          refine Calls.mono HWD.out ?_
          rintro e w1 ⟨wg, wc, rfl, hwi, hk, _⟩
          have hs := St.keep HS.out hk
          clear HS HWD hk
          have HS := hid hs
          have HWI := hid hwi
          clear hs hwi
          have y1 : IntKind.i64.wrap ((b : Int) + 4) = (b : Int) + 4 := IntWalk.i64_in _ (by omega)
          have y2 : IntKind.i64.wrap ((b : Int) + 4 + (s : Int)) = (b : Int) + 4 + (s : Int) := IntWalk.i64_in _ (by omega)
          have g1 : decide ((N : Int) < (b : Int) + 4 + (s : Int)) = false := decide_eq_false (by omega)
          have y3 : IntKind.i64.wrap ((b : Int) + 1) = ((b + 1 : Nat) : Int) := IntWalk.i64_in _ (by omega)
          have y4 : IntKind.i64.wrap ((b : Int) + 2) = ((b + 2 : Nat) : Int) := IntWalk.i64_in _ (by omega)
          have cw1 := HWI.out.cell (b + 1) (by rw [HWN.out]; omega)
          have c2w := HWI.out.cell (b + 2) (by rw [HWN.out]; omega)
          have z1 := HWI.out.lt
          have i1 : b + 1 < N := by omega
          have i2 : b + 2 < N := by omega
          obtain ⟨v1, hv1⟩ : ∃ v, v = rd t.W (b + 1) := ⟨_, rfl⟩
          obtain ⟨v2, hv2⟩ : ∃ v, v = rd t.W (b + 2) := ⟨_, rfl⟩
          rw [← hv1] at cw1
          rw [← hv2] at c2w
          have HV := hid (And.intro hv1 hv2)
          clear hv1 hv2
          cases on with
          | false =>
            go_wp2_with fail
            go_quiet (fail)
            obtain ⟨w2, hw2⟩ : ∃ v, v = w1.drewN nq := ⟨_, rfl⟩
            rw [← hw2]
            have hs : St w [memO w.heap.size m t.W t.L, grp (amO b s g) ms, Ass.blk ob 4 (ms.map (fun p => Value.bool (decide (p.t.st = 9)))), rowO 64 1 (.slice A1 D.length c1) D.length (ms.map (fun p => ptr p.x)), snO b s x t, rowO 3 1 (.slice A2 sums.length c2) sums.length (ints sums)] w2 := by rw [hw2]; exact HS.out.drewN nq
            clear HS hw2 cw1 c2w z1 HWI
            have HS := hid hs
            clear hs
            have HSUM := hid (show (false = true → rd t.W (b + 1) = rd t.W (b + 2) → sumN t.W b s ∈ sums) from fun h => by cases h)
            have HSB := hid (show ∀ x ∈ sums, x ∈ sums from fun _ h => h)
            have hsl2 : sums.length ≤ i + 1 := by omega
            have hcl := (cell_old HS.out.k HPZ.out (fun h => h) _).trans HPC.out
            have hlz := Nat.lt_of_lt_of_le HPZ.out HS.out.k.size
            have hbd := HPB.out i hlt
            have y5 : IntKind.i64.wrap (rd PK i) = rd PK i := IntWalk.i64_in _ (by omega)
            have y6 : IntKind.i64.wrap ((D.length : Int) + 1) = (D.length : Int) + 1 := IntWalk.i64_in _ (by omega)
            have hk0 : 0 ≤ rd PK i % ((D.length : Int) + 1) := Int.emod_nonneg _ (by omega)
            have hk1 : rd PK i % ((D.length : Int) + 1) < (D.length : Int) + 1 := Int.emod_lt_of_pos _ (by omega)
            obtain ⟨kk, hkk⟩ : ∃ kk : Nat, (rd PK i).tmod ((D.length : Int) + 1) = (kk : Int) := ⟨(rd PK i % ((D.length : Int) + 1)).toNat, by rw [Int.tmod_eq_emod_of_nonneg hbd.1]; omega⟩
            have hkd : kk ≤ D.length := by rw [Int.tmod_eq_emod_of_nonneg hbd.1] at hkk; omega
            have y7 : ¬ ((D.length : Int) + 1 = 0) := by omega
            clear hk0 hk1
            by_cases hkl : kk < D.length
            · have g2 : ((kk : Int) == (D.length : Int)) = false := beq_eq_false_iff_ne.2 (by omega)
              have g3 : decide ((kk : Int) < (D.length : Int)) = true := decide_eq_true (by omega)
              have hkm : kk < ms.length := by rw [HML.out]; exact hkl
              obtain ⟨_, ⟨hob, _⟩, _⟩ := St.get (St.pick HS.out 2 (by simp))
              have co : w2.cell? ⟨ob, kk, none⟩ = some (.bool (decide (ms[kk].t.st = 9))) := by rw [hob.cell kk]; simp [hkm]
              have cf := hob.frozen kk
              have cz := hob.lt
              obtain ⟨rb, hA1, hrz, hrc⟩ := rowO_cell (St.get (St.pick HS.out 3 (by simp))).choose_spec.1 hkl
              have cr := hrc (ptr ms[kk].x) (by simp [hkm])
              subst hA1
              clear hob hrc
              by_cases h9 : ms[kk].t.st = 9
              · rw [decide_eq_true h9] at co
                clear cr
                go_wp2_with fail
                go_roundw
                case rel => exact ⟨i + 1, by omega, by go_num, false, A2, c2, sums, ms, t, rfl, rfl, HML.out, (show XT b s g N (i + 1) t.W t.L ms t false sums from (by have h := HXT.out.more; exact ⟨h.ei, h.xi.more HSB.out, h.ni, h.tw, h.tl, h.fin, h.hon, h.cnt, hsl2⟩)), HS.out⟩
                case measure => simp [intOf]; omega
              · rw [decide_eq_false h9] at co
                have HST := hid (HXT.out.step HSB.out hsl2 (by omega) kk hkm h9)
                have HIN := hid (HXT.out.ei.mi kk hkm).inv
                obtain ⟨pk, hpk⟩ : ∃ p, p = ms[kk] := ⟨_, rfl⟩
                obtain ⟨xk, hxk⟩ : ∃ v, v = ms[kk].x := ⟨_, rfl⟩
                rw [← hxk] at cr
                have HXK := hid hxk
                clear hxk
                go_wp2_with fail
                rw [HXK.out]
                refine Calls.mono (St.callg (q := memO w.heap.size m (aNext b s g ms[kk].d (ms[kk].at t.W t.L)).W (aNext b s g ms[kk].d (ms[kk].at t.W t.L)).L) (y := ⟨ms[kk].x, ms[kk].d, aNext b s g ms[kk].d (ms[kk].at t.W t.L)⟩) hkm (show St w [memO w.heap.size m t.W t.L, grp (amO b s g) ms, Ass.blk ob 4 (ms.map (fun p => Value.bool (decide (p.t.st = 9)))), rowO 64 1 (.slice (some ⟨rb, 0, none⟩) D.length c1) D.length (ms.map (fun p => ptr p.x)), snO b s x t, rowO 3 1 (.slice A2 sums.length c2) sums.length (ints sums)] _ from HS.out) (fun R hr _ => amO_Step ms[kk] hr HIN.out (by omega))) ?_
                rintro e w3 ⟨rfl, hs⟩
                clear HS HIN hpk
                obtain ⟨t', ht'⟩ : ∃ v, v = aNext b s g ms[kk].d (ms[kk].at t.W t.L) := ⟨_, rfl⟩
                rw [← ht'] at hs HST ⊢
                have HS := hid hs
                obtain ⟨_, ⟨hob, _⟩, _⟩ := St.get (St.pick hs 2 (by simp))
                have co2 : w3.cell? ⟨ob, kk, none⟩ = some (.bool false) := by rw [hob.cell kk]; simp [hkm, h9]
                have cf2 := hob.frozen kk
                have cz2 := hob.lt
                clear hs hob co cf cz cr hrz hcl hlz ht'
                obtain ⟨b9, hb9⟩ : ∃ v, v = decide (t'.st = 9) := ⟨_, rfl⟩
                rw [← hb9]
                have HB9 := hid hb9
                clear hb9
                go_wp2_with fail
                go_roundw
                case rel =>
                  refine ⟨i + 1, by omega, by go_num, false, A2, c2, sums, ms.set kk ⟨ms[kk].x, ms[kk].d, t'⟩, { t with W := t'.W, L := t'.L }, rfl, rfl, by rw [List.length_set]; exact HML.out, HST.out, ?_⟩
                  have h1 := St.tr (St.pick HS.out 2 (by simp)) (fun R hr => blk_store hr kk (.bool b9))
                  rw [bools_set ms kk t' hkm HB9.out, ptrs_set ms kk t' hkm]
                  have h2 := St.perm h1 (List.Perm.symm (pick_perm [memO w.heap.size m t'.W t'.L, grp (amO b s g) (ms.set kk ⟨ms[kk].x, ms[kk].d, t'⟩), Ass.blk ob 4 ((ms.map (fun p => Value.bool (decide (p.t.st = 9)))).set kk (.bool b9)), rowO 64 1 (.slice (some ⟨rb, 0, none⟩) D.length c1) D.length (ms.map (fun p => ptr p.x)), snO b s x t, rowO 3 1 (.slice A2 sums.length c2) sums.length (ints sums)] 2 (by simp)))
                  have h3 := St.mono (q := snO b s x { t with W := t'.W, L := t'.L }) (St.pick h2 4 (by simp)) (fun V hv _ => snO_wl _ _ hv)
                  exact St.perm h3 (List.Perm.symm (pick_perm [memO w.heap.size m t'.W t'.L, grp (amO b s g) (ms.set kk ⟨ms[kk].x, ms[kk].d, t'⟩), Ass.blk ob 4 ((ms.map (fun p => Value.bool (decide (p.t.st = 9)))).set kk (.bool b9)), rowO 64 1 (.slice (some ⟨rb, 0, none⟩) D.length c1) D.length (ms.map (fun p => ptr p.x)), snO b s x { t with W := t'.W, L := t'.L }, rowO 3 1 (.slice A2 sums.length c2) sums.length (ints sums)] 4 (by simp)))
                case measure => simp [intOf]; omega
            · obtain rfl : kk = D.length := by omega
              have g2 : ((D.length : Int) == (D.length : Int)) = true := by simp
              have g3 : decide ((D.length : Int) < (D.length : Int)) = false := decide_eq_false (by omega)
              have HCT := hid (HXT.out.count HSB.out hsl2 (by omega) HSUM.out)
              have HNI := hid HXT.out.ni
              clear HXT HSUM
              go_wp2_with fail
              refine Calls.mono (St.call (q := (memO w.heap.size m (nNext b s t).W (nNext b s t).L).star (snO b s x (nNext b s t))) (St.pair (St.perm (show St w [memO w.heap.size m t.W t.L, grp (amO b s g) ms, Ass.blk ob 4 (ms.map (fun p => Value.bool (decide (p.t.st = 9)))), rowO 64 1 (.slice A1 D.length c1) D.length (ms.map (fun p => ptr p.x)), snO b s x t, rowO 3 1 (.slice A2 sums.length c2) sums.length (ints sums)] _ from HS.out) (perm6 _ _ _ _ _ _))) (fun R hr _ => snO_Step hr HNI.out (by omega) (by omega))) ?_
              rintro e w3 ⟨rfl, hs⟩
              clear HS HNI hcl hlz
              have HS := hid (St.perm (St.part hs) (perm6' _ _ _ _ _ _))
              clear hs
            
              obtain ⟨t', ht'⟩ : ∃ v, v = nNext b s t := ⟨_, rfl⟩
              have hfe : (nStp b s t).2 = t'.fin := by rw [ht']; rfl
              rw [hfe]
              rw [← ht'] at HS HCT
              clear hfe ht'
              cases hf : t'.fin with
              | false =>
                go_wp2_with fail
                go_roundw
                case rel => exact ⟨i + 1, by omega, by go_num, true, A2, c2, sums, ms, t', rfl, rfl, HML.out, by rw [HCT.out.2.2]; exact HCT.out.1 hf, by have h := HS.out; exact h⟩
                case measure => simp [intOf]; omega
              | true =>
                have HXC := hid (HCT.out.2.1 hf)
                obtain ⟨_, hx, _⟩ := St.get (St.pick HS.out 4 (by simp))
                obtain ⟨an, han⟩ : ∃ an : Int, an = t'.n := ⟨_, rfl⟩
                obtain ⟨ax, hax⟩ : ∃ ax : Bool, ax = t'.ex := ⟨_, rfl⟩
                have HAN := hid (And.intro han.symm hax.symm)
                have HX := hid hx
                clear hx han hax HCT hf
                go_wp2_with fail
                refine Calls.mono (show Calls Try.prog 16 _ w3 (Ret (.agg #[i64 0, i64 an, .bool ax, i64 0]) w3) from by have h := count_Ans _ HX.out; rw [HAN.out.1, HAN.out.2] at h; exact h) ?_
                rintro e w4 ⟨rfl, hk⟩
                have HX4 := hid (HX.out.keep hk (fun _ _ h => h))
                have hs := St.keep HS.out hk
                clear HX HS hk
                have HS := hid hs
                clear hs
                cases ax with
                | false =>
                  go_wp2_with fail
                  go_ret
                  exact ⟨rfl, HS.out.k⟩
                | true =>
                  have HMEM := hid (show an ∈ sums from by rw [← HAN.out.1]; exact HXC.out HAN.out.2)
                  obtain ⟨_, hrow, _⟩ := St.get (St.pick HS.out 5 (by simp))
                  have HROW := hid hrow
                  have HK4 := hid HS.out.k
                  clear hrow HS HXC
                  obtain ⟨n0, hn0⟩ : ∃ n, n = sums.length := ⟨_, rfl⟩
                  rw [← hn0] at HROW ⊢
                  have HN0 := hid hn0
                  have hn0b : n0 ≤ 401 := by omega
                  clear hn0 hsl2 hsl
                  go_wp2_with fail
                  go_loopw [24] (fun v wr => ∃ j : Nat, j ≤ n0 ∧ v = .int .i64 j ∧ (∀ q, q < j → rd sums q ≠ an) ∧ Keep0 w4 wr) (fun v _ => n0 - (intOf v).toNat)
                  case atStart => exact ⟨0, Nat.zero_le _, rfl, fun q h => by omega, Keep.refl _ _⟩
                  case round =>
                    obtain ⟨j, hj, rfl, hne, hk⟩ := hrel
                    have HKR := hid hk
                    have HXR := hid (HX4.out.keep hk (fun _ _ h => h))
                    have HNE := hid hne
                    obtain ⟨wo, hwo⟩ : ∃ v, v = wr := ⟨_, rfl⟩
                    clear hk hne
                    by_cases hjl : j < n0
                    · obtain ⟨sb, hsA, hsz, hsc⟩ := rowO_cell HROW.out hjl
                      have cs := hsc (i64 (rd sums j)) (ints_get sums j (by rw [← HN0.out]; exact hjl))
                      subst hsA
                      have CS := hid (show wr.cell? ⟨sb, j, none⟩ = some (i64 (rd sums j)) from (cell_old HKR.out hsz (fun h => h) _).trans cs)
                      have hsr : sb < wr.heap.size := Nat.lt_of_lt_of_le hsz HKR.out.size
                      obtain ⟨vj, hvj⟩ : ∃ v, v = rd sums j := ⟨_, rfl⟩
                      rw [← hvj] at CS
                      have HVJ := hid hvj
                      clear cs hsc hvj hwo
                      go_wp2_with fail
                      apply wp_region_text (WI := fun S wx => Keep0 wr wx) (by kernel_rfl) (by kernel_rfl)
                      case hob =>
                        apply Oblig.cons
                        case h =>
                          intro S w1 hwi hSi hd hcl
                          apply StepOk.intro
                          intro K hK
                          have cs := (cell_old hwi hsr (fun h => h) _).trans CS.out
                          go_simp
                          apply hK
                          · rfl
                          · conv => (lhs; whnf)
                          · exact hwi
                        simp only [put_lit, put_none]
                        try dsimp only [List.set_cons_succ, List.set_cons_zero]
                        apply Oblig.cons
                        case h =>
                          intro S w1 hwi hSi hd hcl
                          apply StepOk.intro
                          intro K hK
                          have cs := (cell_old hwi hsr (fun h => h) _).trans CS.out
                          go_simp
                          apply hK
                          · rfl
                          · conv => (lhs; whnf)
                          · exact hwi
                        simp only [put_lit, put_none]
                        try dsimp only [List.set_cons_succ, List.set_cons_zero]
                        apply Oblig.cons
                        case h =>
                          intro S w1 hwi hSi hd hcl
                          apply StepOk.intro
                          intro K hK
                          have cs := (cell_old hwi hsr (fun h => h) _).trans CS.out
                          go_simp
                          apply hK
                          · rfl
                          · conv => (lhs; whnf)
                          · exact hwi
                        simp only [put_lit, put_none]
                        try dsimp only [List.set_cons_succ, List.set_cons_zero]
                        apply Oblig.cons
                        case h =>
                          intro S w1 hwi hSi hd hcl
                          apply StepOk.intro
                          intro K hK
                          have cs := (cell_old hwi hsr (fun h => h) _).trans CS.out
                          go_simp
                          apply hK
                          · rfl
                          · conv => (lhs; whnf)
                          · exact hwi
                        simp only [put_lit, put_none]
                        try dsimp only [List.set_cons_succ, List.set_cons_zero]
                        apply Oblig.cons
                        case h =>
                          intro S w1 hwi hSi hd hcl
                          apply StepOk.intro
                          intro K hK
                          have cs := (cell_old hwi hsr (fun h => h) _).trans CS.out
                          go_simp
                          apply hK
                          · rfl
                          · conv => (lhs; whnf)
                          · exact hwi
                        simp only [put_lit, put_none]
                        try dsimp only [List.set_cons_succ, List.set_cons_zero]
                        apply Oblig.cons
                        case h =>
                          intro S w1 hwi hSi hd hcl
                          apply StepOk.intro
                          intro K hK
                          have cs := (cell_old hwi hsr (fun h => h) _).trans CS.out
                          go_simp
                          refine (show Calls Try.prog 16 _ w1 (Ret (.agg #[i64 0, i64 an, .bool true, i64 0]) w1) from by have h := count_Ans _ (HXR.out.keep hwi (fun _ _ h => h)); rw [HAN.out.1, HAN.out.2] at h; exact h).mono ?_
                          rintro e w2 ⟨rfl, hk⟩
                          apply hK
                          · rfl
                          · conv => (lhs; whnf)
                          · exact Keep0.step hwi hk
                        simp only [put_lit, put_none]
                        try dsimp only [List.set_cons_succ, List.set_cons_zero]
                        apply Oblig.cons
                        case h =>
                          intro S w1 hwi hSi hd hcl
                          apply StepOk.intro
                          intro K hK
                          have cs := (cell_old hwi hsr (fun h => h) _).trans CS.out
                          go_simp
                          apply hK
                          · rfl
                          · conv => (lhs; whnf)
                          · exact hwi
                        simp only [put_lit, put_none]
                        try dsimp only [List.set_cons_succ, List.set_cons_zero]
                        apply Oblig.cons
                        case h =>
                          intro S w1 hwi hSi hd hcl
                          apply StepOk.intro
                          intro K hK
                          have cs := (cell_old hwi hsr (fun h => h) _).trans CS.out
                          go_simp
                          apply hK
                          · rfl
                          · conv => (lhs; whnf)
                          · exact hwi
                        simp only [put_lit, put_none]
                        try dsimp only [List.set_cons_succ, List.set_cons_zero]
                        exact Oblig.nil
                      case h0 =>
                        exact (Keep.refl _ _).drew
                      case hend =>
                        intro S wx hwi hall
                        have HKX := hid hwi
                        obtain ⟨wy, hwy⟩ : ∃ v, v = wx := ⟨_, rfl⟩
                        rw [← hwy] at HKX ⊢
                        clear hwi hall hwy
                        cases hq : (vj == an) with
                        | true =>
                          go_wp2_with fail
                          go_ret
                          exact ⟨rfl, Keep0.step HK4.out (Keep0.step HKR.out HKX.out)⟩
                        | false =>
                          go_wp2_with fail
                          go_roundw
                          case rel => exact ⟨j + 1, by omega, by go_num, fun q hqj => (by
                            by_cases e : q = j
                            · subst e; rw [← HVJ.out]; intro h; rw [h] at hq; simp at hq
                            · exact HNE.out q (by omega)), Keep0.step HKR.out HKX.out⟩
                          case measure => simp [intOf]; omega
                    · obtain rfl : j = n0 := by omega
                      exfalso
                      obtain ⟨q, hq, e⟩ := List.getElem_of_mem HMEM.out
                      exact HNE.out q (by rw [HN0.out]; exact hq) (by rw [← e]; simp [rd, hq])
          | true =>
            cases hq : (v1 == v2) with
            | false =>
              go_wp2_with fail
              go_quiet (fail)
              obtain ⟨w2, hw2⟩ : ∃ v, v = w1.drewN nq := ⟨_, rfl⟩
              rw [← hw2]
              have hs : St w [memO w.heap.size m t.W t.L, grp (amO b s g) ms, Ass.blk ob 4 (ms.map (fun p => Value.bool (decide (p.t.st = 9)))), rowO 64 1 (.slice A1 D.length c1) D.length (ms.map (fun p => ptr p.x)), snO b s x t, rowO 3 1 (.slice A2 sums.length c2) sums.length (ints sums)] w2 := by rw [hw2]; exact HS.out.drewN nq
              clear HS hw2 cw1 c2w z1 HWI
              have HS := hid hs
              clear hs
              have HSUM := hid (show (true = true → rd t.W (b + 1) = rd t.W (b + 2) → sumN t.W b s ∈ sums) from fun _ h => by rw [← HV.out.1, ← HV.out.2] at h; rw [h] at hq; simp at hq)
              have HSB := hid (show ∀ x ∈ sums, x ∈ sums from fun _ h => h)
              have hsl2 : sums.length ≤ i + 1 := by omega
              clear hq
              have hcl := (cell_old HS.out.k HPZ.out (fun h => h) _).trans HPC.out
              have hlz := Nat.lt_of_lt_of_le HPZ.out HS.out.k.size
              have hbd := HPB.out i hlt
              have y5 : IntKind.i64.wrap (rd PK i) = rd PK i := IntWalk.i64_in _ (by omega)
              have y6 : IntKind.i64.wrap ((D.length : Int) + 1) = (D.length : Int) + 1 := IntWalk.i64_in _ (by omega)
              have hk0 : 0 ≤ rd PK i % ((D.length : Int) + 1) := Int.emod_nonneg _ (by omega)
              have hk1 : rd PK i % ((D.length : Int) + 1) < (D.length : Int) + 1 := Int.emod_lt_of_pos _ (by omega)
              obtain ⟨kk, hkk⟩ : ∃ kk : Nat, (rd PK i).tmod ((D.length : Int) + 1) = (kk : Int) := ⟨(rd PK i % ((D.length : Int) + 1)).toNat, by rw [Int.tmod_eq_emod_of_nonneg hbd.1]; omega⟩
              have hkd : kk ≤ D.length := by rw [Int.tmod_eq_emod_of_nonneg hbd.1] at hkk; omega
              have y7 : ¬ ((D.length : Int) + 1 = 0) := by omega
              clear hk0 hk1
              by_cases hkl : kk < D.length
              · have g2 : ((kk : Int) == (D.length : Int)) = false := beq_eq_false_iff_ne.2 (by omega)
                have g3 : decide ((kk : Int) < (D.length : Int)) = true := decide_eq_true (by omega)
                have hkm : kk < ms.length := by rw [HML.out]; exact hkl
                obtain ⟨_, ⟨hob, _⟩, _⟩ := St.get (St.pick HS.out 2 (by simp))
                have co : w2.cell? ⟨ob, kk, none⟩ = some (.bool (decide (ms[kk].t.st = 9))) := by rw [hob.cell kk]; simp [hkm]
                have cf := hob.frozen kk
                have cz := hob.lt
                obtain ⟨rb, hA1, hrz, hrc⟩ := rowO_cell (St.get (St.pick HS.out 3 (by simp))).choose_spec.1 hkl
                have cr := hrc (ptr ms[kk].x) (by simp [hkm])
                subst hA1
                clear hob hrc
                by_cases h9 : ms[kk].t.st = 9
                · rw [decide_eq_true h9] at co
                  clear cr
                  go_wp2_with fail
                  go_roundw
                  case rel => exact ⟨i + 1, by omega, by go_num, true, A2, c2, sums, ms, t, rfl, rfl, HML.out, (show XT b s g N (i + 1) t.W t.L ms t true sums from (by have h := HXT.out.more; exact ⟨h.ei, h.xi.more HSB.out, h.ni, h.tw, h.tl, h.fin, h.hon, h.cnt, hsl2⟩)), HS.out⟩
                  case measure => simp [intOf]; omega
                · rw [decide_eq_false h9] at co
                  have HST := hid (HXT.out.step HSB.out hsl2 (by omega) kk hkm h9)
                  have HIN := hid (HXT.out.ei.mi kk hkm).inv
                  obtain ⟨pk, hpk⟩ : ∃ p, p = ms[kk] := ⟨_, rfl⟩
                  obtain ⟨xk, hxk⟩ : ∃ v, v = ms[kk].x := ⟨_, rfl⟩
                  rw [← hxk] at cr
                  have HXK := hid hxk
                  clear hxk
                  go_wp2_with fail
                  rw [HXK.out]
                  refine Calls.mono (St.callg (q := memO w.heap.size m (aNext b s g ms[kk].d (ms[kk].at t.W t.L)).W (aNext b s g ms[kk].d (ms[kk].at t.W t.L)).L) (y := ⟨ms[kk].x, ms[kk].d, aNext b s g ms[kk].d (ms[kk].at t.W t.L)⟩) hkm (show St w [memO w.heap.size m t.W t.L, grp (amO b s g) ms, Ass.blk ob 4 (ms.map (fun p => Value.bool (decide (p.t.st = 9)))), rowO 64 1 (.slice (some ⟨rb, 0, none⟩) D.length c1) D.length (ms.map (fun p => ptr p.x)), snO b s x t, rowO 3 1 (.slice A2 sums.length c2) sums.length (ints sums)] _ from HS.out) (fun R hr _ => amO_Step ms[kk] hr HIN.out (by omega))) ?_
                  rintro e w3 ⟨rfl, hs⟩
                  clear HS HIN hpk
                  obtain ⟨t', ht'⟩ : ∃ v, v = aNext b s g ms[kk].d (ms[kk].at t.W t.L) := ⟨_, rfl⟩
                  rw [← ht'] at hs HST ⊢
                  have HS := hid hs
                  obtain ⟨_, ⟨hob, _⟩, _⟩ := St.get (St.pick hs 2 (by simp))
                  have co2 : w3.cell? ⟨ob, kk, none⟩ = some (.bool false) := by rw [hob.cell kk]; simp [hkm, h9]
                  have cf2 := hob.frozen kk
                  have cz2 := hob.lt
                  clear hs hob co cf cz cr hrz hcl hlz ht'
                  obtain ⟨b9, hb9⟩ : ∃ v, v = decide (t'.st = 9) := ⟨_, rfl⟩
                  rw [← hb9]
                  have HB9 := hid hb9
                  clear hb9
                  go_wp2_with fail
                  go_roundw
                  case rel =>
                    refine ⟨i + 1, by omega, by go_num, true, A2, c2, sums, ms.set kk ⟨ms[kk].x, ms[kk].d, t'⟩, { t with W := t'.W, L := t'.L }, rfl, rfl, by rw [List.length_set]; exact HML.out, HST.out, ?_⟩
                    have h1 := St.tr (St.pick HS.out 2 (by simp)) (fun R hr => blk_store hr kk (.bool b9))
                    rw [bools_set ms kk t' hkm HB9.out, ptrs_set ms kk t' hkm]
                    have h2 := St.perm h1 (List.Perm.symm (pick_perm [memO w.heap.size m t'.W t'.L, grp (amO b s g) (ms.set kk ⟨ms[kk].x, ms[kk].d, t'⟩), Ass.blk ob 4 ((ms.map (fun p => Value.bool (decide (p.t.st = 9)))).set kk (.bool b9)), rowO 64 1 (.slice (some ⟨rb, 0, none⟩) D.length c1) D.length (ms.map (fun p => ptr p.x)), snO b s x t, rowO 3 1 (.slice A2 sums.length c2) sums.length (ints sums)] 2 (by simp)))
                    have h3 := St.mono (q := snO b s x { t with W := t'.W, L := t'.L }) (St.pick h2 4 (by simp)) (fun V hv _ => snO_wl _ _ hv)
                    exact St.perm h3 (List.Perm.symm (pick_perm [memO w.heap.size m t'.W t'.L, grp (amO b s g) (ms.set kk ⟨ms[kk].x, ms[kk].d, t'⟩), Ass.blk ob 4 ((ms.map (fun p => Value.bool (decide (p.t.st = 9)))).set kk (.bool b9)), rowO 64 1 (.slice (some ⟨rb, 0, none⟩) D.length c1) D.length (ms.map (fun p => ptr p.x)), snO b s x { t with W := t'.W, L := t'.L }, rowO 3 1 (.slice A2 sums.length c2) sums.length (ints sums)] 4 (by simp)))
                  case measure => simp [intOf]; omega
              · obtain rfl : kk = D.length := by omega
                have g2 : ((D.length : Int) == (D.length : Int)) = true := by simp
                have g3 : decide ((D.length : Int) < (D.length : Int)) = false := decide_eq_false (by omega)
                have HCT := hid (HXT.out.count HSB.out hsl2 (by omega) HSUM.out)
                have HNI := hid HXT.out.ni
                clear HXT HSUM
                go_wp2_with fail
                refine Calls.mono (St.call (q := (memO w.heap.size m (nNext b s t).W (nNext b s t).L).star (snO b s x (nNext b s t))) (St.pair (St.perm (show St w [memO w.heap.size m t.W t.L, grp (amO b s g) ms, Ass.blk ob 4 (ms.map (fun p => Value.bool (decide (p.t.st = 9)))), rowO 64 1 (.slice A1 D.length c1) D.length (ms.map (fun p => ptr p.x)), snO b s x t, rowO 3 1 (.slice A2 sums.length c2) sums.length (ints sums)] _ from HS.out) (perm6 _ _ _ _ _ _))) (fun R hr _ => snO_Step hr HNI.out (by omega) (by omega))) ?_
                rintro e w3 ⟨rfl, hs⟩
                clear HS HNI hcl hlz
                have HS := hid (St.perm (St.part hs) (perm6' _ _ _ _ _ _))
                clear hs
              
                obtain ⟨t', ht'⟩ : ∃ v, v = nNext b s t := ⟨_, rfl⟩
                have hfe : (nStp b s t).2 = t'.fin := by rw [ht']; rfl
                rw [hfe]
                rw [← ht'] at HS HCT
                clear hfe ht'
                cases hf : t'.fin with
                | false =>
                  go_wp2_with fail
                  go_roundw
                  case rel => exact ⟨i + 1, by omega, by go_num, true, A2, c2, sums, ms, t', rfl, rfl, HML.out, by rw [HCT.out.2.2]; exact HCT.out.1 hf, by have h := HS.out; exact h⟩
                  case measure => simp [intOf]; omega
                | true =>
                  have HXC := hid (HCT.out.2.1 hf)
                  obtain ⟨_, hx, _⟩ := St.get (St.pick HS.out 4 (by simp))
                  obtain ⟨an, han⟩ : ∃ an : Int, an = t'.n := ⟨_, rfl⟩
                  obtain ⟨ax, hax⟩ : ∃ ax : Bool, ax = t'.ex := ⟨_, rfl⟩
                  have HAN := hid (And.intro han.symm hax.symm)
                  have HX := hid hx
                  clear hx han hax HCT hf
                  go_wp2_with fail
                  refine Calls.mono (show Calls Try.prog 16 _ w3 (Ret (.agg #[i64 0, i64 an, .bool ax, i64 0]) w3) from by have h := count_Ans _ HX.out; rw [HAN.out.1, HAN.out.2] at h; exact h) ?_
                  rintro e w4 ⟨rfl, hk⟩
                  have HX4 := hid (HX.out.keep hk (fun _ _ h => h))
                  have hs := St.keep HS.out hk
                  clear HX HS hk
                  have HS := hid hs
                  clear hs
                  cases ax with
                  | false =>
                    go_wp2_with fail
                    go_ret
                    exact ⟨rfl, HS.out.k⟩
                  | true =>
                    have HMEM := hid (show an ∈ sums from by rw [← HAN.out.1]; exact HXC.out HAN.out.2)
                    obtain ⟨_, hrow, _⟩ := St.get (St.pick HS.out 5 (by simp))
                    have HROW := hid hrow
                    have HK4 := hid HS.out.k
                    clear hrow HS HXC
                    obtain ⟨n0, hn0⟩ : ∃ n, n = sums.length := ⟨_, rfl⟩
                    rw [← hn0] at HROW ⊢
                    have HN0 := hid hn0
                    have hn0b : n0 ≤ 401 := by omega
                    clear hn0 hsl2 hsl
                    go_wp2_with fail
                    go_loopw [24] (fun v wr => ∃ j : Nat, j ≤ n0 ∧ v = .int .i64 j ∧ (∀ q, q < j → rd sums q ≠ an) ∧ Keep0 w4 wr) (fun v _ => n0 - (intOf v).toNat)
                    case atStart => exact ⟨0, Nat.zero_le _, rfl, fun q h => by omega, Keep.refl _ _⟩
                    case round =>
                      obtain ⟨j, hj, rfl, hne, hk⟩ := hrel
                      have HKR := hid hk
                      have HXR := hid (HX4.out.keep hk (fun _ _ h => h))
                      have HNE := hid hne
                      obtain ⟨wo, hwo⟩ : ∃ v, v = wr := ⟨_, rfl⟩
                      clear hk hne
                      by_cases hjl : j < n0
                      · obtain ⟨sb, hsA, hsz, hsc⟩ := rowO_cell HROW.out hjl
                        have cs := hsc (i64 (rd sums j)) (ints_get sums j (by rw [← HN0.out]; exact hjl))
                        subst hsA
                        have CS := hid (show wr.cell? ⟨sb, j, none⟩ = some (i64 (rd sums j)) from (cell_old HKR.out hsz (fun h => h) _).trans cs)
                        have hsr : sb < wr.heap.size := Nat.lt_of_lt_of_le hsz HKR.out.size
                        obtain ⟨vj, hvj⟩ : ∃ v, v = rd sums j := ⟨_, rfl⟩
                        rw [← hvj] at CS
                        have HVJ := hid hvj
                        clear cs hsc hvj hwo
                        go_wp2_with fail
                        apply wp_region_text (WI := fun S wx => Keep0 wr wx) (by kernel_rfl) (by kernel_rfl)
                        case hob =>
                          apply Oblig.cons
                          case h =>
                            intro S w1 hwi hSi hd hcl
                            apply StepOk.intro
                            intro K hK
                            have cs := (cell_old hwi hsr (fun h => h) _).trans CS.out
                            go_simp
                            apply hK
                            · rfl
                            · conv => (lhs; whnf)
                            · exact hwi
                          simp only [put_lit, put_none]
                          try dsimp only [List.set_cons_succ, List.set_cons_zero]
                          apply Oblig.cons
                          case h =>
                            intro S w1 hwi hSi hd hcl
                            apply StepOk.intro
                            intro K hK
                            have cs := (cell_old hwi hsr (fun h => h) _).trans CS.out
                            go_simp
                            apply hK
                            · rfl
                            · conv => (lhs; whnf)
                            · exact hwi
                          simp only [put_lit, put_none]
                          try dsimp only [List.set_cons_succ, List.set_cons_zero]
                          apply Oblig.cons
                          case h =>
                            intro S w1 hwi hSi hd hcl
                            apply StepOk.intro
                            intro K hK
                            have cs := (cell_old hwi hsr (fun h => h) _).trans CS.out
                            go_simp
                            apply hK
                            · rfl
                            · conv => (lhs; whnf)
                            · exact hwi
                          simp only [put_lit, put_none]
                          try dsimp only [List.set_cons_succ, List.set_cons_zero]
                          apply Oblig.cons
                          case h =>
                            intro S w1 hwi hSi hd hcl
                            apply StepOk.intro
                            intro K hK
                            have cs := (cell_old hwi hsr (fun h => h) _).trans CS.out
                            go_simp
                            apply hK
                            · rfl
                            · conv => (lhs; whnf)
                            · exact hwi
                          simp only [put_lit, put_none]
                          try dsimp only [List.set_cons_succ, List.set_cons_zero]
                          apply Oblig.cons
                          case h =>
                            intro S w1 hwi hSi hd hcl
                            apply StepOk.intro
                            intro K hK
                            have cs := (cell_old hwi hsr (fun h => h) _).trans CS.out
                            go_simp
                            apply hK
                            · rfl
                            · conv => (lhs; whnf)
                            · exact hwi
                          simp only [put_lit, put_none]
                          try dsimp only [List.set_cons_succ, List.set_cons_zero]
                          apply Oblig.cons
                          case h =>
                            intro S w1 hwi hSi hd hcl
                            apply StepOk.intro
                            intro K hK
                            have cs := (cell_old hwi hsr (fun h => h) _).trans CS.out
                            go_simp
                            refine (show Calls Try.prog 16 _ w1 (Ret (.agg #[i64 0, i64 an, .bool true, i64 0]) w1) from by have h := count_Ans _ (HXR.out.keep hwi (fun _ _ h => h)); rw [HAN.out.1, HAN.out.2] at h; exact h).mono ?_
                            rintro e w2 ⟨rfl, hk⟩
                            apply hK
                            · rfl
                            · conv => (lhs; whnf)
                            · exact Keep0.step hwi hk
                          simp only [put_lit, put_none]
                          try dsimp only [List.set_cons_succ, List.set_cons_zero]
                          apply Oblig.cons
                          case h =>
                            intro S w1 hwi hSi hd hcl
                            apply StepOk.intro
                            intro K hK
                            have cs := (cell_old hwi hsr (fun h => h) _).trans CS.out
                            go_simp
                            apply hK
                            · rfl
                            · conv => (lhs; whnf)
                            · exact hwi
                          simp only [put_lit, put_none]
                          try dsimp only [List.set_cons_succ, List.set_cons_zero]
                          apply Oblig.cons
                          case h =>
                            intro S w1 hwi hSi hd hcl
                            apply StepOk.intro
                            intro K hK
                            have cs := (cell_old hwi hsr (fun h => h) _).trans CS.out
                            go_simp
                            apply hK
                            · rfl
                            · conv => (lhs; whnf)
                            · exact hwi
                          simp only [put_lit, put_none]
                          try dsimp only [List.set_cons_succ, List.set_cons_zero]
                          exact Oblig.nil
                        case h0 =>
                          exact (Keep.refl _ _).drew
                        case hend =>
                          intro S wx hwi hall
                          have HKX := hid hwi
                          obtain ⟨wy, hwy⟩ : ∃ v, v = wx := ⟨_, rfl⟩
                          rw [← hwy] at HKX ⊢
                          clear hwi hall hwy
                          cases hq : (vj == an) with
                          | true =>
                            go_wp2_with fail
                            go_ret
                            exact ⟨rfl, Keep0.step HK4.out (Keep0.step HKR.out HKX.out)⟩
                          | false =>
                            go_wp2_with fail
                            go_roundw
                            case rel => exact ⟨j + 1, by omega, by go_num, fun q hqj => (by
                              by_cases e : q = j
                              · subst e; rw [← HVJ.out]; intro h; rw [h] at hq; simp at hq
                              · exact HNE.out q (by omega)), Keep0.step HKR.out HKX.out⟩
                            case measure => simp [intOf]; omega
                      · obtain rfl : j = n0 := by omega
                        exfalso
                        obtain ⟨q, hq, e⟩ := List.getElem_of_mem HMEM.out
                        exact HNE.out q (by rw [HN0.out]; exact hq) (by rw [← e]; simp [rd, hq])
            | true =>
              go_wp2_with fail
              go_quiet (fail)
              obtain ⟨w2, hw2⟩ : ∃ v, v = w1.drewN nq := ⟨_, rfl⟩
              rw [← hw2]
              have hs : St w [memO w.heap.size m t.W t.L, grp (amO b s g) ms, Ass.blk ob 4 (ms.map (fun p => Value.bool (decide (p.t.st = 9)))), rowO 64 1 (.slice A1 D.length c1) D.length (ms.map (fun p => ptr p.x)), snO b s x t, rowO 3 1 (.slice A2 sums.length c2) sums.length (ints sums)] w2 := by rw [hw2]; exact HS.out.drewN nq
              clear HS hw2 cw1 c2w z1 HWI hq
              have HS := hid hs
              obtain ⟨_, ⟨ma, mlv, hm, _⟩, _⟩ := St.get hs
              have HSM := hid (add_Sum b s hm (by omega) (by rw [HWN.out]; omega) (by omega))
              clear hs hm
              go_wp2_with fail
              refine Calls.mono HSM.out ?_
              rintro e w3 ⟨rfl, hk⟩
              have hs := St.keep HS.out hk
              clear HS hk HSM
              have HS := hid hs
              obtain ⟨_, ⟨ho, _⟩, _⟩ := St.get (St.pick hs 5 (by simp))
              have HO := hid ho
              clear hs ho
              obtain ⟨sv, hsv⟩ : ∃ v, v = sumN t.W b s := ⟨_, rfl⟩
              rw [← hsv]
              have HSV := hid hsv
              clear hsv
              obtain ⟨n0, hn0⟩ : ∃ n, n = sums.length := ⟨_, rfl⟩
              rw [← hn0] at HO ⊢
              have HN0 := hid hn0
              have hn0b : n0 ≤ 400 := by omega
              obtain ⟨xs0, hxs0⟩ : ∃ v, v = ints sums := ⟨_, rfl⟩
              rw [← hxs0] at HO
              have HXS := hid hxs0
              clear hn0 hxs0
              obtain ⟨ii0, hti2, hzi0, hzi1, hzi2⟩ := info_parts info_int
              have HII := hid hti2
              clear hti2
              go_upto_region 23 with (at_builtin; refine wpl_append_own ?a1 (.tmp 116) (.tmp 121) 33 ?a2 (0) 3 ii0 ?z 1 8 ?a3 ?a4 ?a5 ?a6 ?a7 ?a8 ?a9 (.slice A2 n0 c2) (n0) (xs0) ?a10 ?hown (⟨w3.heap.size, 0, none⟩) (1) (1) ([i64 sv]) ?a11 ?a12 ?hnews ?hone ?h63 ?hby ?hbase ?_; (case a1 => rfl); (case a2 => rfl); (case a3 => exact Try.underlying33); (case a4 => exact HII.out); (case a5 => exact hzi0); (case a6 => exact hzi1); (case a7 => exact hzi2); (case a8 => rfl); (case a9 => decide); (case a10 => rfl); (case a11 => rfl); (case a12 => rfl); (case hown => exact ownsRow_keep (S := fun _ => False) HO.out (by repeat (with_reducible first | exact Keep.refl _ _ | apply Keep.alloc | apply Keep.drew)) (fun _ _ h => h)); (case h63 => unfold maxLen; omega); (case hby => omega); (case hnews => exact news_at (Blk.made (by simp) rfl)); (case hone => simp [Value.oneCell']); (case hbase => omega); intro A9 c9 w9 hown9 hg9 hsl9; have HS9 := hid (St.tr (St.pick HS.out 5 (by simp)) (fun R hr => rowO_app (by rw [← HN0.out, ← HXS.out] at hr; exact hr) ((Keep.refl _ _).alloc _) hown9 hg9 hsl9.1)); clear hown9 hg9 hsl9 HS HO)
              have hs : St w [memO w.heap.size m t.W t.L, grp (amO b s g) ms, Ass.blk ob 4 (ms.map (fun p => Value.bool (decide (p.t.st = 9)))), rowO 64 1 (.slice A1 D.length c1) D.length (ms.map (fun p => ptr p.x)), snO b s x t, rowO 3 1 (.slice A9 (sums ++ [sv]).length c9) (sums ++ [sv]).length (ints (sums ++ [sv]))] w9 := by
                have h := HS9.out
                have h2 : St w [rowO 3 1 (.slice A9 (sums ++ [sv]).length c9) (sums ++ [sv]).length (ints (sums ++ [sv])), memO w.heap.size m t.W t.L, grp (amO b s g) ms, Ass.blk ob 4 (ms.map (fun p => Value.bool (decide (p.t.st = 9)))), rowO 64 1 (.slice A1 D.length c1) D.length (ms.map (fun p => ptr p.x)), snO b s x t] w9 := by
                  rw [List.length_append, ints_app8, ← HXS.out, ← HN0.out]
                  exact h
                exact St.perm h2 (List.Perm.symm (pick_perm [memO w.heap.size m t.W t.L, grp (amO b s g) ms, Ass.blk ob 4 (ms.map (fun p => Value.bool (decide (p.t.st = 9)))), rowO 64 1 (.slice A1 D.length c1) D.length (ms.map (fun p => ptr p.x)), snO b s x t, rowO 3 1 (.slice A9 (sums ++ [sv]).length c9) (sums ++ [sv]).length (ints (sums ++ [sv]))] 5 (by simp)))
              clear HS9
              have HSUM := hid (show (true = true → rd t.W (b + 1) = rd t.W (b + 2) → sumN t.W b s ∈ sums ++ [sv]) from fun _ _ => by rw [HSV.out]; simp)
              have HSB := hid (show ∀ x ∈ sums, x ∈ sums ++ [sv] from fun x h => by simp [h])
              have hsl2 : (sums ++ [sv]).length ≤ i + 1 := by simp; omega
              rw [show (n0 + 1) = (sums ++ [sv]).length from by rw [HN0.out]; simp]
              clear HSV HXS HN0 hn0b HII
              obtain ⟨sums2, hsu2⟩ : ∃ v, v = sums ++ [sv] := ⟨_, rfl⟩
              rw [← hsu2] at hs hsl2 HSUM HSB ⊢
              have HS := hid hs
              clear hs hsu2
              obtain ⟨w2, hw2⟩ : ∃ v, v = w9 := ⟨_, rfl⟩
              rw [← hw2] at HS ⊢
              clear hw2
              have hcl := (cell_old HS.out.k HPZ.out (fun h => h) _).trans HPC.out
              have hlz := Nat.lt_of_lt_of_le HPZ.out HS.out.k.size
              have hbd := HPB.out i hlt
              have y5 : IntKind.i64.wrap (rd PK i) = rd PK i := IntWalk.i64_in _ (by omega)
              have y6 : IntKind.i64.wrap ((D.length : Int) + 1) = (D.length : Int) + 1 := IntWalk.i64_in _ (by omega)
              have hk0 : 0 ≤ rd PK i % ((D.length : Int) + 1) := Int.emod_nonneg _ (by omega)
              have hk1 : rd PK i % ((D.length : Int) + 1) < (D.length : Int) + 1 := Int.emod_lt_of_pos _ (by omega)
              obtain ⟨kk, hkk⟩ : ∃ kk : Nat, (rd PK i).tmod ((D.length : Int) + 1) = (kk : Int) := ⟨(rd PK i % ((D.length : Int) + 1)).toNat, by rw [Int.tmod_eq_emod_of_nonneg hbd.1]; omega⟩
              have hkd : kk ≤ D.length := by rw [Int.tmod_eq_emod_of_nonneg hbd.1] at hkk; omega
              have y7 : ¬ ((D.length : Int) + 1 = 0) := by omega
              clear hk0 hk1
              by_cases hkl : kk < D.length
              · have g2 : ((kk : Int) == (D.length : Int)) = false := beq_eq_false_iff_ne.2 (by omega)
                have g3 : decide ((kk : Int) < (D.length : Int)) = true := decide_eq_true (by omega)
                have hkm : kk < ms.length := by rw [HML.out]; exact hkl
                obtain ⟨_, ⟨hob, _⟩, _⟩ := St.get (St.pick HS.out 2 (by simp))
                have co : w2.cell? ⟨ob, kk, none⟩ = some (.bool (decide (ms[kk].t.st = 9))) := by rw [hob.cell kk]; simp [hkm]
                have cf := hob.frozen kk
                have cz := hob.lt
                obtain ⟨rb, hA1, hrz, hrc⟩ := rowO_cell (St.get (St.pick HS.out 3 (by simp))).choose_spec.1 hkl
                have cr := hrc (ptr ms[kk].x) (by simp [hkm])
                subst hA1
                clear hob hrc
                by_cases h9 : ms[kk].t.st = 9
                · rw [decide_eq_true h9] at co
                  clear cr
                  go_wp2_with fail
                  go_roundw
                  case rel => exact ⟨i + 1, by omega, by go_num, true, A9, c9, sums2, ms, t, rfl, rfl, HML.out, (show XT b s g N (i + 1) t.W t.L ms t true sums2 from (by have h := HXT.out.more; exact ⟨h.ei, h.xi.more HSB.out, h.ni, h.tw, h.tl, h.fin, h.hon, h.cnt, hsl2⟩)), HS.out⟩
                  case measure => simp [intOf]; omega
                · rw [decide_eq_false h9] at co
                  have HST := hid (HXT.out.step HSB.out hsl2 (by omega) kk hkm h9)
                  have HIN := hid (HXT.out.ei.mi kk hkm).inv
                  obtain ⟨pk, hpk⟩ : ∃ p, p = ms[kk] := ⟨_, rfl⟩
                  obtain ⟨xk, hxk⟩ : ∃ v, v = ms[kk].x := ⟨_, rfl⟩
                  rw [← hxk] at cr
                  have HXK := hid hxk
                  clear hxk
                  go_wp2_with fail
                  rw [HXK.out]
                  refine Calls.mono (St.callg (q := memO w.heap.size m (aNext b s g ms[kk].d (ms[kk].at t.W t.L)).W (aNext b s g ms[kk].d (ms[kk].at t.W t.L)).L) (y := ⟨ms[kk].x, ms[kk].d, aNext b s g ms[kk].d (ms[kk].at t.W t.L)⟩) hkm (show St w [memO w.heap.size m t.W t.L, grp (amO b s g) ms, Ass.blk ob 4 (ms.map (fun p => Value.bool (decide (p.t.st = 9)))), rowO 64 1 (.slice (some ⟨rb, 0, none⟩) D.length c1) D.length (ms.map (fun p => ptr p.x)), snO b s x t, rowO 3 1 (.slice A9 sums2.length c9) sums2.length (ints sums2)] _ from HS.out) (fun R hr _ => amO_Step ms[kk] hr HIN.out (by omega))) ?_
                  rintro e w3 ⟨rfl, hs⟩
                  clear HS HIN hpk
                  obtain ⟨t', ht'⟩ : ∃ v, v = aNext b s g ms[kk].d (ms[kk].at t.W t.L) := ⟨_, rfl⟩
                  rw [← ht'] at hs HST ⊢
                  have HS := hid hs
                  obtain ⟨_, ⟨hob, _⟩, _⟩ := St.get (St.pick hs 2 (by simp))
                  have co2 : w3.cell? ⟨ob, kk, none⟩ = some (.bool false) := by rw [hob.cell kk]; simp [hkm, h9]
                  have cf2 := hob.frozen kk
                  have cz2 := hob.lt
                  clear hs hob co cf cz cr hrz hcl hlz ht'
                  obtain ⟨b9, hb9⟩ : ∃ v, v = decide (t'.st = 9) := ⟨_, rfl⟩
                  rw [← hb9]
                  have HB9 := hid hb9
                  clear hb9
                  go_wp2_with fail
                  go_roundw
                  case rel =>
                    refine ⟨i + 1, by omega, by go_num, true, A9, c9, sums2, ms.set kk ⟨ms[kk].x, ms[kk].d, t'⟩, { t with W := t'.W, L := t'.L }, rfl, rfl, by rw [List.length_set]; exact HML.out, HST.out, ?_⟩
                    have h1 := St.tr (St.pick HS.out 2 (by simp)) (fun R hr => blk_store hr kk (.bool b9))
                    rw [bools_set ms kk t' hkm HB9.out, ptrs_set ms kk t' hkm]
                    have h2 := St.perm h1 (List.Perm.symm (pick_perm [memO w.heap.size m t'.W t'.L, grp (amO b s g) (ms.set kk ⟨ms[kk].x, ms[kk].d, t'⟩), Ass.blk ob 4 ((ms.map (fun p => Value.bool (decide (p.t.st = 9)))).set kk (.bool b9)), rowO 64 1 (.slice (some ⟨rb, 0, none⟩) D.length c1) D.length (ms.map (fun p => ptr p.x)), snO b s x t, rowO 3 1 (.slice A9 sums2.length c9) sums2.length (ints sums2)] 2 (by simp)))
                    have h3 := St.mono (q := snO b s x { t with W := t'.W, L := t'.L }) (St.pick h2 4 (by simp)) (fun V hv _ => snO_wl _ _ hv)
                    exact St.perm h3 (List.Perm.symm (pick_perm [memO w.heap.size m t'.W t'.L, grp (amO b s g) (ms.set kk ⟨ms[kk].x, ms[kk].d, t'⟩), Ass.blk ob 4 ((ms.map (fun p => Value.bool (decide (p.t.st = 9)))).set kk (.bool b9)), rowO 64 1 (.slice (some ⟨rb, 0, none⟩) D.length c1) D.length (ms.map (fun p => ptr p.x)), snO b s x { t with W := t'.W, L := t'.L }, rowO 3 1 (.slice A9 sums2.length c9) sums2.length (ints sums2)] 4 (by simp)))
                  case measure => simp [intOf]; omega
              · obtain rfl : kk = D.length := by omega
                have g2 : ((D.length : Int) == (D.length : Int)) = true := by simp
                have g3 : decide ((D.length : Int) < (D.length : Int)) = false := decide_eq_false (by omega)
                have HCT := hid (HXT.out.count HSB.out hsl2 (by omega) HSUM.out)
                have HNI := hid HXT.out.ni
                clear HXT HSUM
                go_wp2_with fail
                refine Calls.mono (St.call (q := (memO w.heap.size m (nNext b s t).W (nNext b s t).L).star (snO b s x (nNext b s t))) (St.pair (St.perm (show St w [memO w.heap.size m t.W t.L, grp (amO b s g) ms, Ass.blk ob 4 (ms.map (fun p => Value.bool (decide (p.t.st = 9)))), rowO 64 1 (.slice A1 D.length c1) D.length (ms.map (fun p => ptr p.x)), snO b s x t, rowO 3 1 (.slice A9 sums2.length c9) sums2.length (ints sums2)] _ from HS.out) (perm6 _ _ _ _ _ _))) (fun R hr _ => snO_Step hr HNI.out (by omega) (by omega))) ?_
                rintro e w3 ⟨rfl, hs⟩
                clear HS HNI hcl hlz
                have HS := hid (St.perm (St.part hs) (perm6' _ _ _ _ _ _))
                clear hs
              
                obtain ⟨t', ht'⟩ : ∃ v, v = nNext b s t := ⟨_, rfl⟩
                have hfe : (nStp b s t).2 = t'.fin := by rw [ht']; rfl
                rw [hfe]
                rw [← ht'] at HS HCT
                clear hfe ht'
                cases hf : t'.fin with
                | false =>
                  go_wp2_with fail
                  go_roundw
                  case rel => exact ⟨i + 1, by omega, by go_num, true, A9, c9, sums2, ms, t', rfl, rfl, HML.out, by rw [HCT.out.2.2]; exact HCT.out.1 hf, by have h := HS.out; exact h⟩
                  case measure => simp [intOf]; omega
                | true =>
                  have HXC := hid (HCT.out.2.1 hf)
                  obtain ⟨_, hx, _⟩ := St.get (St.pick HS.out 4 (by simp))
                  obtain ⟨an, han⟩ : ∃ an : Int, an = t'.n := ⟨_, rfl⟩
                  obtain ⟨ax, hax⟩ : ∃ ax : Bool, ax = t'.ex := ⟨_, rfl⟩
                  have HAN := hid (And.intro han.symm hax.symm)
                  have HX := hid hx
                  clear hx han hax HCT hf
                  go_wp2_with fail
                  refine Calls.mono (show Calls Try.prog 16 _ w3 (Ret (.agg #[i64 0, i64 an, .bool ax, i64 0]) w3) from by have h := count_Ans _ HX.out; rw [HAN.out.1, HAN.out.2] at h; exact h) ?_
                  rintro e w4 ⟨rfl, hk⟩
                  have HX4 := hid (HX.out.keep hk (fun _ _ h => h))
                  have hs := St.keep HS.out hk
                  clear HX HS hk
                  have HS := hid hs
                  clear hs
                  cases ax with
                  | false =>
                    go_wp2_with fail
                    go_ret
                    exact ⟨rfl, HS.out.k⟩
                  | true =>
                    have HMEM := hid (show an ∈ sums2 from by rw [← HAN.out.1]; exact HXC.out HAN.out.2)
                    obtain ⟨_, hrow, _⟩ := St.get (St.pick HS.out 5 (by simp))
                    have HROW := hid hrow
                    have HK4 := hid HS.out.k
                    clear hrow HS HXC
                    obtain ⟨n0, hn0⟩ : ∃ n, n = sums2.length := ⟨_, rfl⟩
                    rw [← hn0] at HROW ⊢
                    have HN0 := hid hn0
                    have hn0b : n0 ≤ 401 := by omega
                    clear hn0 hsl2 hsl
                    go_wp2_with fail
                    go_loopw [24] (fun v wr => ∃ j : Nat, j ≤ n0 ∧ v = .int .i64 j ∧ (∀ q, q < j → rd sums2 q ≠ an) ∧ Keep0 w4 wr) (fun v _ => n0 - (intOf v).toNat)
                    case atStart => exact ⟨0, Nat.zero_le _, rfl, fun q h => by omega, Keep.refl _ _⟩
                    case round =>
                      obtain ⟨j, hj, rfl, hne, hk⟩ := hrel
                      have HKR := hid hk
                      have HXR := hid (HX4.out.keep hk (fun _ _ h => h))
                      have HNE := hid hne
                      obtain ⟨wo, hwo⟩ : ∃ v, v = wr := ⟨_, rfl⟩
                      clear hk hne
                      by_cases hjl : j < n0
                      · obtain ⟨sb, hsA, hsz, hsc⟩ := rowO_cell HROW.out hjl
                        have cs := hsc (i64 (rd sums2 j)) (ints_get sums2 j (by rw [← HN0.out]; exact hjl))
                        subst hsA
                        have CS := hid (show wr.cell? ⟨sb, j, none⟩ = some (i64 (rd sums2 j)) from (cell_old HKR.out hsz (fun h => h) _).trans cs)
                        have hsr : sb < wr.heap.size := Nat.lt_of_lt_of_le hsz HKR.out.size
                        obtain ⟨vj, hvj⟩ : ∃ v, v = rd sums2 j := ⟨_, rfl⟩
                        rw [← hvj] at CS
                        have HVJ := hid hvj
                        clear cs hsc hvj hwo
                        go_wp2_with fail
                        apply wp_region_text (WI := fun S wx => Keep0 wr wx) (by kernel_rfl) (by kernel_rfl)
                        case hob =>
                          apply Oblig.cons
                          case h =>
                            intro S w1 hwi hSi hd hcl
                            apply StepOk.intro
                            intro K hK
                            have cs := (cell_old hwi hsr (fun h => h) _).trans CS.out
                            go_simp
                            apply hK
                            · rfl
                            · conv => (lhs; whnf)
                            · exact hwi
                          simp only [put_lit, put_none]
                          try dsimp only [List.set_cons_succ, List.set_cons_zero]
                          apply Oblig.cons
                          case h =>
                            intro S w1 hwi hSi hd hcl
                            apply StepOk.intro
                            intro K hK
                            have cs := (cell_old hwi hsr (fun h => h) _).trans CS.out
                            go_simp
                            apply hK
                            · rfl
                            · conv => (lhs; whnf)
                            · exact hwi
                          simp only [put_lit, put_none]
                          try dsimp only [List.set_cons_succ, List.set_cons_zero]
                          apply Oblig.cons
                          case h =>
                            intro S w1 hwi hSi hd hcl
                            apply StepOk.intro
                            intro K hK
                            have cs := (cell_old hwi hsr (fun h => h) _).trans CS.out
                            go_simp
                            apply hK
                            · rfl
                            · conv => (lhs; whnf)
                            · exact hwi
                          simp only [put_lit, put_none]
                          try dsimp only [List.set_cons_succ, List.set_cons_zero]
                          apply Oblig.cons
                          case h =>
                            intro S w1 hwi hSi hd hcl
                            apply StepOk.intro
                            intro K hK
                            have cs := (cell_old hwi hsr (fun h => h) _).trans CS.out
                            go_simp
                            apply hK
                            · rfl
                            · conv => (lhs; whnf)
                            · exact hwi
                          simp only [put_lit, put_none]
                          try dsimp only [List.set_cons_succ, List.set_cons_zero]
                          apply Oblig.cons
                          case h =>
                            intro S w1 hwi hSi hd hcl
                            apply StepOk.intro
                            intro K hK
                            have cs := (cell_old hwi hsr (fun h => h) _).trans CS.out
                            go_simp
                            apply hK
                            · rfl
                            · conv => (lhs; whnf)
                            · exact hwi
                          simp only [put_lit, put_none]
                          try dsimp only [List.set_cons_succ, List.set_cons_zero]
                          apply Oblig.cons
                          case h =>
                            intro S w1 hwi hSi hd hcl
                            apply StepOk.intro
                            intro K hK
                            have cs := (cell_old hwi hsr (fun h => h) _).trans CS.out
                            go_simp
                            refine (show Calls Try.prog 16 _ w1 (Ret (.agg #[i64 0, i64 an, .bool true, i64 0]) w1) from by have h := count_Ans _ (HXR.out.keep hwi (fun _ _ h => h)); rw [HAN.out.1, HAN.out.2] at h; exact h).mono ?_
                            rintro e w2 ⟨rfl, hk⟩
                            apply hK
                            · rfl
                            · conv => (lhs; whnf)
                            · exact Keep0.step hwi hk
                          simp only [put_lit, put_none]
                          try dsimp only [List.set_cons_succ, List.set_cons_zero]
                          apply Oblig.cons
                          case h =>
                            intro S w1 hwi hSi hd hcl
                            apply StepOk.intro
                            intro K hK
                            have cs := (cell_old hwi hsr (fun h => h) _).trans CS.out
                            go_simp
                            apply hK
                            · rfl
                            · conv => (lhs; whnf)
                            · exact hwi
                          simp only [put_lit, put_none]
                          try dsimp only [List.set_cons_succ, List.set_cons_zero]
                          apply Oblig.cons
                          case h =>
                            intro S w1 hwi hSi hd hcl
                            apply StepOk.intro
                            intro K hK
                            have cs := (cell_old hwi hsr (fun h => h) _).trans CS.out
                            go_simp
                            apply hK
                            · rfl
                            · conv => (lhs; whnf)
                            · exact hwi
                          simp only [put_lit, put_none]
                          try dsimp only [List.set_cons_succ, List.set_cons_zero]
                          exact Oblig.nil
                        case h0 =>
                          exact (Keep.refl _ _).drew
                        case hend =>
                          intro S wx hwi hall
                          have HKX := hid hwi
                          obtain ⟨wy, hwy⟩ : ∃ v, v = wx := ⟨_, rfl⟩
                          rw [← hwy] at HKX ⊢
                          clear hwi hall hwy
                          cases hq : (vj == an) with
                          | true =>
                            go_wp2_with fail
                            go_ret
                            exact ⟨rfl, Keep0.step HK4.out (Keep0.step HKR.out HKX.out)⟩
                          | false =>
                            go_wp2_with fail
                            go_roundw
                            case rel => exact ⟨j + 1, by omega, by go_num, fun q hqj => (by
                              by_cases e : q = j
                              · subst e; rw [← HVJ.out]; intro h; rw [h] at hq; simp at hq
                              · exact HNE.out q (by omega)), Keep0.step HKR.out HKX.out⟩
                            case measure => simp [intOf]; omega
                      · obtain rfl : j = n0 := by omega
                        exfalso
                        obtain ⟨q, hq, e⟩ := List.getElem_of_mem HMEM.out
                        exact HNE.out q (by rw [HN0.out]; exact hq) (by rw [← e]; simp [rd, hq])
        · obtain rfl : i = PK.length := by omega
          go_wp2_with fail
          go_ret
          exact ⟨rfl, HS.out.k⟩
end Go.Proofs.Ytlkniogapdhcpaa
