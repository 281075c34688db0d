/- AddGate: whatever others do, who leave values within the gate, and lives that may be, so does the machine, at each step. -/
import Derived.Test.YtchlmaphaeoplaaHeadSix
import Derived.Test.YtchlmaphaeoplaaLawSixE
import Derived.Test.YtchlmaphaeoplaaRowSix
import Derived.Test.YtchlmaphaeoplaaRegionF
import Derived.Test.YtchlmaphaeoplaaAddG
import Derived.Test.YtchlmaphaeoplaaLog
namespace Go.Proofs.Ytchlmaphaeoplaa
open Go.RowKit
set_option linter.unusedVariables false
set_option linter.unusedSimpArgs false
set_option maxRecDepth 100000
theorem updG_ne {S : Nat → Bool} {i j : Nat} (h : j ≠ i) : upd S i j = S j := by simp [upd, h]
theorem updG_eq {S : Nat → Bool} {i : Nat} : upd S i i = true := by simp [upd]
/-- the region that pokes (11) -/
def WPk (P Q : World → Prop) (S : Nat → Bool) (wx : World) : Prop := (S 11 = false → P wx) ∧ (S 11 = true → Q wx)
theorem WPk.fixed {P Q : World → Prop} {S : Nat → Bool} {wx : World} {i : Nat} (h : WPk P Q S wx) (hi : i ≠ 11) : WPk P Q (upd S i) wx := by
  unfold WPk
  rw [updG_ne (Ne.symm hi)]
  exact h
theorem WPk.done {P Q : World → Prop} {S : Nat → Bool} {wx : World} (h : Q wx) : WPk P Q (upd S 11) wx := by
  unfold WPk
  rw [updG_eq]
  exact ⟨(fun h => by cases h), fun _ => h⟩
/-- the region that looks at the log (10) -/
def WLg (w0 : World) (n : Nat) (S : Nat → Bool) (gh : Nat → Value) (wx : World) : Prop := Keep0 w0 wx ∧ (S 10 = true → ∃ A c, gh 10 = .slice A n c)
theorem WLg.fixed {w0 : World} {n : Nat} {S : Nat → Bool} {gh : Nat → Value} {wx : World} {i : Nat} (h : WLg w0 n S gh wx) (hi : i ≠ 10) : WLg w0 n (upd S i) gh wx := by
  unfold WLg
  rw [updG_ne (Ne.symm hi)]
  exact h
theorem WLg.done {w0 : World} {n : Nat} {S : Nat → Bool} {gh : Nat → Value} {wx : World} {A : Option Addr} {c : Nat} (h : Keep0 w0 wx) : WLg w0 n (upd S 10) (updv gh 10 (.slice A n c)) wx := by
  unfold WLg
  rw [updG_eq, updv_same]
  exact ⟨h, fun _ => ⟨A, c, rfl⟩⟩
set_option maxHeartbeats 8000000 in
theorem addGate_walk {w : World} {v0 v3 : Value} (hc : CounterIn w v0) (d : Int) (hd : (Lit.int .i32 d).wf = true) (th : Int) (hth : (Lit.int .u16 th).wf = true) (hK0 : ∃ l, pksIn w v3 l) : Calls Try.prog 7 #[v0, .int .i32 d, .int .u16 th, v3] w (Ret (.bool true) w) := by
  have hd := bounds_i32 hd
  have hth := bounds_u16 hth
  obtain ⟨K, KA, kc, rfl, _, hK⟩ := hK0
  have HKK := hid hK
  clear hK
  obtain ⟨ba, sr, ga, gl, li, VA, V, vc, UA, U, uc, rfl, h0, h1, h2, h3, h4, hV, hv1, hvb, hU, hu1, hub⟩ := hc
  obtain ⟨b, hb⟩ : ∃ b : Nat, (b : Int) = ba % 8 := ⟨(ba % 8).toNat, by omega⟩
  have hz1 := sz4_bd sr
  have hz2 := sz4_bd li
  obtain ⟨s, hs⟩ : ∃ s : Nat, (s : Int) = sz4 sr := ⟨(sz4 sr).toNat, by omega⟩
  obtain ⟨g, hg⟩ : ∃ g : Nat, (g : Int) = ga % 40 + 1 := ⟨(ga % 40 + 1).toNat, by omega⟩
  obtain ⟨l, hl⟩ : ∃ l : Nat, (l : Int) = min (sz4 li) (sz4 sr) := ⟨(min (sz4 li) (sz4 sr)).toNat, by omega⟩
  have HP2 := hid (show p2 (s : Int) ∧ p2 (l : Int) ∧ (l : Int) ≤ s from ⟨by rw [hs]; exact sz4_p2 _, by rw [hl]; exact (p2_min (sz4_p2 _) (sz4_p2 _)).1, by rw [hl, hs]; exact (p2_min (sz4_p2 _) (sz4_p2 _)).2⟩)
  have hbb : b ≤ 7 := by omega
  have hss : 1 ≤ s ∧ s ≤ 8 := by omega
  have hgg : 1 ≤ g ∧ g ≤ 40 := by omega
  have hll : 1 ≤ l ∧ l ≤ 8 := by omega
  have HSZ := hid (fun w' => law6_Size ba sr ga gl li VA V.length vc UA U.length uc w' h0 h1 h2 h4)
  rw [← hl, ← hb, ← hs, ← hg] at HSZ
  have HWO := hid (fun (w' : World) (hk : Keep0 w w') hv hu => law6_Words ba sr ga gl li VA V vc UA U uc w' b s g l h0 h1 h2 h4 h3 (hV.keep hk) (hU.keep hk) hv hu hvb hub hb hs hg hl)
  have HPO := hid (fun (KA : Option Addr) (K : List Pk) (kc : Nat) (w' : World) hK hk => law6_Poked ba sr ga gl li VA V vc UA U uc KA K kc w' b s g l h0 h1 h2 h4 hb hs hg hl hK hk)
  have HK0 : Hid (Keep0 w (w.alloc (.cells #[.int .u8 ba, .int .u8 sr, .int .u16 ga, .int .i32 gl, .int .u8 li, .slice VA V.length vc, .slice UA U.length uc] 26))) := hid ((Keep.refl _ _).alloc _)
  clear hV hU hv1 hu1 hvb hub h0 h1 h2 h4 hb hs hg hl hz1 hz2
  go_enter Try.func7, Try.ntmps7
  go_wp2_with fail
  have HB : Hid (Blk (w.alloc (.cells #[.int .u8 ba, .int .u8 sr, .int .u16 ga, .int .i32 gl, .int .u8 li, .slice VA V.length vc, .slice UA U.length uc] 26)) w.heap.size 26 [.int .u8 ba, .int .u8 sr, .int .u16 ga, .int .i32 gl, .int .u8 li, .slice VA V.length vc, .slice UA U.length uc]) := hid (Blk.made rfl rfl)
  have qHB := HB.out.k7
  refine (law6_head _).mono ?_
  rintro e w1 ⟨rfl, hk⟩
  have HK1 : Hid (Keep0 w w1) := hid (Keep0.step (by repeat (with_reducible first | exact Keep.refl _ _ | exact HK0.out | apply Keep.alloc | apply Keep.drewN | apply Keep.drew)) hk)
  have THB := hk.blk (show Blk _ _ _ _ from by repeat (with_reducible first | exact HB.out | apply Blk.alloc | apply Blk.drewN | apply Blk.drew)) (fun h => h)
  clear hk qHB HB HK0
  have HB := hid THB
  clear THB
  have qHB := HB.out.k7
  by_cases hgd0 : 40 < K.length
  · go_wp2_with fail
    go_ret
    exact ⟨rfl, HK1.out⟩
  by_cases hgd1 : 20 < V.length
  · go_wp2_with fail
    go_ret
    exact ⟨rfl, HK1.out⟩
  by_cases hgd2 : 20 < U.length
  · go_wp2_with fail
    go_ret
    exact ⟨rfl, HK1.out⟩
  go_wp2_with fail
  refine (HSZ.out _).mono ?_
  rintro e w2 ⟨rfl, hk⟩
  have HK2 : Hid (Keep0 w w2) := hid (Keep0.step (by repeat (with_reducible first | exact Keep.refl _ _ | exact HK1.out | apply Keep.alloc | apply Keep.drewN | apply Keep.drew)) hk)
  have THB := hk.blk (show Blk _ _ _ _ from by repeat (with_reducible first | exact HB.out | apply Blk.alloc | apply Blk.drewN | apply Blk.drew)) (fun h => h)
  clear hk qHB HB HK1
  have HB := hid THB
  clear THB
  have qHB := HB.out.k7
  clear HSZ
  go_wp2_with fail
  refine (HWO.out _ (by repeat (with_reducible first | exact Keep.refl _ _ | exact HK2.out | apply Keep.alloc | apply Keep.drewN | apply Keep.drew)) (by omega) (by omega)).mono ?_
  rintro e w3 ⟨wg, rfl, hwg, hk, hwge⟩
  generalize hN : b + 4 + s + 3 = N at *
  have HWF := hid (wf6 b s g gl l V U hgg)
  generalize words6 b g (zero6 b s gl l) V U s = WW at *
  have HN := hid hN
  have hln : WW.length = N := HWF.out.ln.trans hN
  have hN1 : b + 4 + s ≤ N := by omega
  have hN2 : N ≤ 22 := by omega
  clear hN
  have HWG := hid (Blk.ints hwg)
  have hwz : w.heap.size ≤ wg := Nat.le_trans HK2.out.size (by simpa using hwge)
  have HK3 : Hid (Keep0 w w3) := hid (Keep0.step (by repeat (with_reducible first | exact Keep.refl _ _ | exact HK2.out | apply Keep.alloc | apply Keep.drewN | apply Keep.drew)) hk)
  have THB := hk.blk (show Blk _ _ _ _ from by repeat (with_reducible first | exact HB.out | apply Blk.alloc | apply Blk.drewN | apply Blk.drew)) (fun h => h)
  clear hk qHB HB HK2
  have HB := hid THB
  clear THB
  have qHB := HB.out.k7
  clear hwg HWO hwge
  go_wp2_with fail
  refine (law6_laid w.heap.size _ wg _ N WW HWG.out hln.symm (by omega) (by have := HK3.out.size; omega)).mono ?_
  rintro e w4 ⟨m, a, lv, rfl, hm, hk, hzm, hza⟩
  have hzm' : w.heap.size ≤ m := Nat.le_trans HK3.out.size hzm
  have hza' : w.heap.size ≤ a := Nat.le_trans HK3.out.size hza
  have hwgm : wg ≠ a := by have := HWG.out.lt; omega
  have HK4 : Hid (Keep0 w w4) := hid (Keep0.step (by repeat (with_reducible first | exact Keep.refl _ _ | exact HK3.out | apply Keep.alloc | apply Keep.drewN | apply Keep.drew)) hk)
  have THB := hk.blk (show Blk _ _ _ _ from by repeat (with_reducible first | exact HB.out | apply Blk.alloc | apply Blk.drewN | apply Blk.drew)) (fun h => h)
  have THWG := hk.ints (show Ints _ _ _ from by repeat (with_reducible first | exact HWG.out | apply Ints.alloc | apply Ints.drewN | apply Ints.drew)) (fun h => h)
  clear hk qHB HB HWG HK3
  have HB := hid THB
  clear THB
  have qHB := HB.out.k7
  have HWG := hid THWG
  clear THWG
  have HM := hid hm
  clear hm hzm hza
  clear HWG
  go_wp2_with fail
  refine (law6_amount d _ hd).mono ?_
  rintro e w0 ⟨rfl, rfl⟩
  go_wp2_with fail
  have hdb := tmod_bd d 1048576 (by omega)
  generalize d.tmod 1048576 = dd at *
  obtain ⟨tn, htn⟩ : ∃ n : Nat, (n : Int) = th % 1001 := ⟨(th % 1001).toNat, by omega⟩
  rw [← htn]
  obtain ⟨x7, hx7⟩ : ∃ n : Nat, (n : Int) = dBegin (tn : Nat) := ⟨(dBegin (tn : Nat)).toNat, Int.toNat_of_nonneg (dBegin_bd _).1⟩
  have hbx7 : (x7 : Int) < 4294967296 := by rw [hx7]; exact (dBegin_bd _).2
  refine (add_New b s g (dd) tn _ (by omega) x7 hx7).mono ?_
  rintro e w5 ⟨x, rfl, hx, hk, hbx⟩
  have hzx : w.heap.size ≤ x := Nat.le_trans HK4.out.size hx
  have hlx := hx
  have HK5 : Hid (Keep0 w w5) := hid (Keep0.step (by repeat (with_reducible first | exact Keep.refl _ _ | exact HK4.out | apply Keep.alloc | apply Keep.drewN | apply Keep.drew)) hk)
  have THB := hk.blk (show Blk _ _ _ _ from by repeat (with_reducible first | exact HB.out | apply Blk.alloc | apply Blk.drewN | apply Blk.drew)) (fun h => h)
  have THM := MemAt.same (by repeat (with_reducible first | exact HM.out | apply MemAt.alloc | apply MemAt.drew)) hk
  clear hk qHB HB HM HK4
  have HB := hid THB
  clear THB
  have qHB := HB.out.k7
  have HM := hid THM
  clear THM
  clear hx hx7
  have HX := hid hbx
  clear hbx
  have hmz := HM.out.mem.lt
  have haz := HM.out.words.lt
  have hxz := HX.out.lt
  have HLZ := hid (fun kb (e : lv.ownBlock = some kb) => (HM.out.log.lt kb e).2)
  go_wp2_with fail
  refine (HPO.out KA K kc _ (HKK.out.keep (show Keep0 w _ from by repeat (with_reducible first | exact Keep.refl _ _ | exact HK5.out | apply Keep.alloc | apply Keep.drewN | apply Keep.drew))) (by omega)).mono ?_
  rintro e w6 ⟨PA, pc, rfl, hpk, hk, hpb⟩
  have HK6 : Hid (Keep0 w w6) := hid (Keep0.step (by repeat (with_reducible first | exact Keep.refl _ _ | exact HK5.out | apply Keep.alloc | apply Keep.drewN | apply Keep.drew)) hk)
  have THB := hk.blk (show Blk _ _ _ _ from by repeat (with_reducible first | exact HB.out | apply Blk.alloc | apply Blk.drewN | apply Blk.drew)) (fun h => h)
  have THM := MemAt.same (by repeat (with_reducible first | exact HM.out | apply MemAt.alloc | apply MemAt.drew)) hk
  have THX := hk.blk (show Blk _ _ _ _ from by repeat (with_reducible first | exact HX.out | apply Blk.alloc | apply Blk.drewN | apply Blk.drew)) (fun h => h)
  clear hk qHB HB HM HX HK5
  have HB := hid THB
  clear THB
  have qHB := HB.out.k7
  have HM := hid THM
  clear THM
  have HX := hid THX
  clear THX
  have HPK := hid hpk
  have HPB := hid hpb
  clear hpk hpb HPO HKK
  clear qHB HB
  have hgg2 : (1 : Int) ≤ g ∧ (g : Int) ≤ 2147483647 := by omega
  have HOK := hid (okPokes6 (b := b) (s := s) (g := g) (l := l) (K := K) hgg2 HP2.out.2)
  have HME := hid (fun p (hp : p ∈ poked6 b s g l K) => poked6_mem hp hgg2)
  have hpl := poked6_length b s g l K
  generalize poked6 b s g l K = PK at *
  have hpl40 : PK.length ≤ 40 := by omega
  clear hpl
  have HAI := hid (AInv.start (b := b) (s := s) (g := g) (d := dd) (W := WW) (L := []) (x := (x7 : Int)) (by omega) (by omega) HP2.out.1 (by omega) (by omega) (by rw [HWF.out.lv]; exact HP2.out.2) (by omega))
  have hs0 : AdSys w.heap.size m a x b s g dd N 0 lv w6.heap.size 0 w6 ⟨WW, [], 0, (x7 : Int), 0, 0, 0, 0⟩ := ⟨lv, HM.out, fun _ h => Or.inl h, HX.out, hln, by simp, HAI.out, Nat.le_refl _⟩
  have HS0 := hid hs0
  have HFAR := hid (fun (w' : World) (hk : Keep (fun k => (k = m ∨ k = a ∨ k = x ∨ lv.ownBlock = some k) ∨ w6.heap.size ≤ k) w6 w') => adplay_far HM.out hzx hk w HK6.out (Nat.le_refl _))
  have HG0 := hid (show GI b s g dd N ⟨WW, [], 0, (x7 : Int), 0, 0, 0, 0⟩ 0 from ⟨HAI.out, HWF.out.gate, hln, rfl⟩)
  obtain ⟨kb, ko, hka, hkc⟩ := HPK.out.at_
  have HKA := hid (show ∀ (w' : World), 0 < PK.length → Keep (fun k => (k = m ∨ k = a ∨ k = x ∨ lv.ownBlock = some k) ∨ w6.heap.size ≤ k) w6 w' → PA = some ⟨kb, ko, none⟩ ∧ kb < w'.heap.size ∧ ∀ i (h : i < PK.length), w'.cell? ⟨kb, ko + i * 3, none⟩ = some (i64 PK[i].at_) ∧ w'.cell? ⟨kb, ko + i * 3 + 1, none⟩ = some (i64 PK[i].w) ∧ w'.cell? ⟨kb, ko + i * 3 + 2, none⟩ = some (i64 PK[i].x) from by
    intro w' h0 hk
    obtain ⟨e, hz⟩ := hka h0
    have hq := HPB.out kb ko e
    have hns : ¬ ((kb = m ∨ kb = a ∨ kb = x ∨ lv.ownBlock = some kb) ∨ w6.heap.size ≤ kb) := by
      rintro ((h | h | h | h) | h)
      · omega
      · omega
      · omega
      · have := HLZ.out kb h; omega
      · omega
    refine ⟨e, Nat.lt_of_lt_of_le hz hk.size, fun i hi => ?_⟩
    obtain ⟨h1, h2, h3⟩ := hkc i hi
    exact ⟨by rw [cell_old hk hz hns]; exact h1, by rw [cell_old hk hz hns]; exact h2, by rw [cell_old hk hz hns]; exact h3⟩)
  clear hs0 hka hkc HPK HPB HAI HM HX HWF
  go_wp2_with fail
  go_loopw [17] (fun v wr => ∃ n : Nat, n ≤ 60 ∧ v = .int .i64 n ∧ ∃ t, AdSys w.heap.size m a x b s g dd N 0 lv w6.heap.size n wr t ∧ GI b s g dd N t n ∧ t.st < 9 ∧ Keep (fun k => (k = m ∨ k = a ∨ k = x ∨ lv.ownBlock = some k) ∨ w6.heap.size ≤ k) w6 wr) (fun v _ => 60 - (intOf v).toNat)
  case atStart => exact ⟨0, by omega, rfl, _, HS0.out, HG0.out, by show (0 : Nat) < 9; omega, Keep.refl _ _⟩
  case round =>
    obtain ⟨n, hn, rfl, t, hs, hg0, hst, hk⟩ := hrel
    have HSR := hid hs
    have HGR := hid hg0
    have HST0 := hid hst
    have HKR := hid hk
    clear hs hg0 hst hk HS0 HG0
    by_cases hlt : n < 60
    · have hlt2 : decide ((n : Int) < 60) = true := by simp; omega
      have HP40 := hid hpl40
      clear htn hgg2 hpl40
      go_wp2_with fail
      obtain ⟨wo, rfl⟩ : ∃ wo : World, wo = wr := ⟨_, rfl⟩
      go_loopw [18] (fun v wi => ∃ j : Nat, j ≤ PK.length ∧ v = .int .i64 j ∧ ∃ t', AdSys w.heap.size m a x b s g dd N 0 lv w6.heap.size n wi t' ∧ GI b s g dd N t' n ∧ t'.st < 9 ∧ Keep (fun k => (k = m ∨ k = a ∨ k = x ∨ lv.ownBlock = some k) ∨ w6.heap.size ≤ k) w6 wi) (fun v _ => PK.length - (intOf v).toNat)
      case atStart => exact ⟨0, Nat.zero_le _, rfl, t, HSR.out, HGR.out, HST0.out, HKR.out⟩
      case round =>
        obtain ⟨j, hj, rfl, t', hs, hg0, hst, hk⟩ := hrel
        have HSJ := hid hs
        have HGJ := hid hg0
        have HST := hid hst
        have HKJ := hid hk
        clear hs hg0 hst hk HSR HGR HST0 HKR
        by_cases hjl : j < PK.length
        · obtain ⟨rfl, hkz, hcl0⟩ := HKA.out wr (by omega) HKJ.out
          have hcell := hcl0 j hjl
          have hme := HME.out PK[j] (List.getElem_mem hjl)
          have hok := HOK.out PK[j] (List.getElem_mem hjl)
          generalize PK[j].at_ = pa at *
          generalize PK[j].w = pw at *
          generalize PK[j].x = px at *
          have hpr : 0 ≤ pw ∧ pw < (N : Int) := by omega
          have HPL := hid (show pw = ((b + 3 : Nat) : Int) → p2 px ∧ px ≤ (s : Int) from hok)
          have hjl2 : (j : Int) < (PK.length : Int) := by omega
          have yj : IntKind.i64.wrap ((j : Int) + 1) = (j : Int) + 1 := IntWalk.i64_in _ (by have := HP40.out; omega)
          have HCL := hid (show ∀ w', Keep0 wr w' → kb < w'.heap.size ∧ w'.cell? ⟨kb, ko + j * 3, none⟩ = some (i64 pa) ∧ w'.cell? ⟨kb, ko + j * 3 + 1, none⟩ = some (i64 pw) ∧ w'.cell? ⟨kb, ko + j * 3 + 2, none⟩ = some (i64 px) from fun w' hk => ⟨Nat.lt_of_lt_of_le hkz hk.size, by rw [cell_old hk hkz (fun x => x)]; exact hcell.1, by rw [cell_old hk hkz (fun x => x)]; exact hcell.2.1, by rw [cell_old hk hkz (fun x => x)]; exact hcell.2.2⟩)
          have HGN := hid (show GI b s g dd N (aPk t' pw.toNat px) n from HGJ.out.poke _ _ (fun e => HPL.out (by omega)) (fun e => hme.2.2.2 (by omega)))
          obtain ⟨c1, c2, c3⟩ := hcell
          have z1 := lts hkz
          clear hme hok hcl0
          by_cases hA : pa = n
          · have g1 : (pa == (n : Int)) = true := by simpa using hA
            clear hA
            go_wp2_with fail
            clear c1 c2 c3
            apply wp_region_text (WI := WPk (fun wx => Keep0 wr wx) (fun wx => AdSys w.heap.size m a x b s g dd N 0 lv w6.heap.size n wx (aPk t' pw.toNat px) ∧ Keep (fun k => (k = m ∨ k = a ∨ k = x ∨ lv.ownBlock = some k) ∨ w6.heap.size ≤ k) w6 wx)) (by kernel_rfl) (by kernel_rfl)
            case hob =>
              apply Oblig.cons
              case h =>
                intro S w1 hwi hSi hd hcl
                apply StepOk.intro
                intro K hK
                go_simp
                apply hK
                · rfl
                · conv => (lhs; whnf)
                · exact hwi.fixed (by decide)
              simp only [put_lit, put_none]
              try dsimp only [List.set_cons_succ, List.set_cons_zero]
              apply Oblig.cons
              case h =>
                intro S w1 hwi hSi hd hcl
                apply StepOk.intro
                intro K hK
                go_simp
                apply hK
                · rfl
                · conv => (lhs; whnf)
                · exact hwi.fixed (by decide)
              simp only [put_lit, put_none]
              try dsimp only [List.set_cons_succ, List.set_cons_zero]
              apply Oblig.cons
              case h =>
                intro S w1 hwi hSi hd hcl
                apply StepOk.intro
                intro K hK
                go_simp
                apply hK
                · rfl
                · conv => (lhs; whnf)
                · exact hwi.fixed (by decide)
              simp only [put_lit, put_none]
              try dsimp only [List.set_cons_succ, List.set_cons_zero]
              apply Oblig.cons
              case h =>
                intro S w1 hwi hSi hd hcl
                apply StepOk.intro
                intro K hK
                go_simp
                apply hK
                · rfl
                · conv => (lhs; whnf)
                · exact hwi.fixed (by decide)
              simp only [put_lit, put_none]
              try dsimp only [List.set_cons_succ, List.set_cons_zero]
              apply Oblig.cons
              case h =>
                intro S w1 hwi hSi hd hcl
                apply StepOk.intro
                intro K hK
                go_simp
                apply hK
                · rfl
                · conv => (lhs; whnf)
                · exact hwi.fixed (by decide)
              simp only [put_lit, put_none]
              try dsimp only [List.set_cons_succ, List.set_cons_zero]
              apply Oblig.cons
              case h =>
                intro S w1 hwi hSi hd hcl
                apply StepOk.intro
                intro K hK
                have h11 : S 11 = false := by
                  cases h : S 11 with
                  | false => rfl
                  | true => exact absurd ((hcl 11 _ rfl h) ⟨5, .data⟩ (by simp) rfl) (by rw [hSi]; decide)
                have hq := HCL.out _ (hwi.1 h11)
                obtain ⟨z1, c1, c2, c3⟩ := hq
                go_simp
                apply hK
                · rfl
                · conv => (lhs; whnf)
                · exact hwi.fixed (by decide)
              simp only [put_lit, put_none]
              try dsimp only [List.set_cons_succ, List.set_cons_zero]
              apply Oblig.cons
              case h =>
                intro S w1 hwi hSi hd hcl
                apply StepOk.intro
                intro K hK
                go_simp
                apply hK
                · rfl
                · conv => (lhs; whnf)
                · exact hwi.fixed (by decide)
              simp only [put_lit, put_none]
              try dsimp only [List.set_cons_succ, List.set_cons_zero]
              apply Oblig.cons
              case h =>
                intro S w1 hwi hSi hd hcl
                apply StepOk.intro
                intro K hK
                go_simp
                apply hK
                · rfl
                · conv => (lhs; whnf)
                · exact hwi.fixed (by decide)
              simp only [put_lit, put_none]
              try dsimp only [List.set_cons_succ, List.set_cons_zero]
              apply Oblig.cons
              case h =>
                intro S w1 hwi hSi hd hcl
                apply StepOk.intro
                intro K hK
                go_simp
                apply hK
                · rfl
                · conv => (lhs; whnf)
                · exact hwi.fixed (by decide)
              simp only [put_lit, put_none]
              try dsimp only [List.set_cons_succ, List.set_cons_zero]
              apply Oblig.cons
              case h =>
                intro S w1 hwi hSi hd hcl
                apply StepOk.intro
                intro K hK
                go_simp
                apply hK
                · rfl
                · conv => (lhs; whnf)
                · exact hwi.fixed (by decide)
              simp only [put_lit, put_none]
              try dsimp only [List.set_cons_succ, List.set_cons_zero]
              apply Oblig.cons
              case h =>
                intro S w1 hwi hSi hd hcl
                apply StepOk.intro
                intro K hK
                have h11 : S 11 = false := by
                  cases h : S 11 with
                  | false => rfl
                  | true => exact absurd ((hcl 11 _ rfl h) ⟨10, .data⟩ (by simp) rfl) (by rw [hSi]; decide)
                have hq := HCL.out _ (hwi.1 h11)
                obtain ⟨z1, c1, c2, c3⟩ := hq
                go_simp
                apply hK
                · rfl
                · conv => (lhs; whnf)
                · exact hwi.fixed (by decide)
              simp only [put_lit, put_none]
              try dsimp only [List.set_cons_succ, List.set_cons_zero]
              apply Oblig.cons
              case h =>
                intro S w1 hwi hSi hd hcl
                apply StepOk.intro
                intro K hK
                go_simp
                refine ((HSJ.out.same (hwi.1 hSi)).poke pw px hpr.1 hpr.2 HPL.out).mono ?_
                rintro e w2 ⟨rfl, hs2, hk2⟩
                apply hK
                · rfl
                · conv => (lhs; whnf)
                · exact WPk.done ⟨hs2, HKJ.out.trans (((hwi.1 hSi).mono (fun _ h => h.elim)).trans hk2 (fun _ _ h => h)) (fun _ _ h => h)⟩
              simp only [put_lit, put_none]
              try dsimp only [List.set_cons_succ, List.set_cons_zero]
              exact Oblig.nil
            case h0 =>
              exact ⟨fun _ => (Keep.refl _ _).drew, (fun h => by cases h)⟩
            case hend =>
              intro S wx hwi hall
              obtain ⟨hs2, hk2⟩ := hwi.2 (hall 11 (by decide))
              have HS2 := hid hs2
              have HK2 := hid hk2
              clear hs2 hk2 hwi hall
              go_wp2_with fail
              have hj40 := HP40.out
              go_roundw
              case rel => exact ⟨j + 1, by omega, by go_num, aPk t' pw.toNat px, HS2.out, HGN.out, HST.out, HK2.out⟩
              case measure => simp [intOf]; omega
          · have g1 : (pa == (n : Int)) = false := by simpa using hA
            clear hA
            go_wp2_with fail
            have hj40 := HP40.out
            go_roundw
            case rel => exact ⟨j + 1, by omega, by go_num, t', HSJ.out, HGJ.out, HST.out, HKJ.out⟩
            case measure => simp [intOf]; omega
        · have hrs : (aStp b s g dd t').1 = aNext b s g dd t' := rfl
          have hrt : (aStp b s g dd t').2 = decide ((aNext b s g dd t').st = 9) := rfl
          have hsp := HSJ.out.step (by omega) (by omega)
          rw [hrs, hrt] at hsp
          have HSP := hid hsp
          have HGA := hid (HGJ.out.step HST.out)
          clear hrs hrt hsp
          go_wp2_with fail
          refine HSP.out.mono ?_
          rintro e w3 ⟨rfl, hs, hk⟩
          have HSA3 := hid hs
          have HKA3 := hid (HKJ.out.trans hk (fun _ _ h => h))
          clear hs hk HSJ HGJ HKJ HSP HST
          obtain ⟨lv3, hm3, _⟩ := HSA3.out
          have HM3 := hid hm3
          clear hm3
          have hvl : (aNext b s g dd t').W.length = N := HGA.out.ln
          have hwd := mem_Words HM3.out (by omega)
          rw [hvl] at hwd
          have HWD := hid hwd
          clear hwd
          generalize hb9 : decide ((aNext b s g dd t').st = 9) = is9 at *
          have HB9 := hid hb9
          clear hb9
          go_wp2_with fail
          refine HWD.out.mono ?_
          rintro e w4 ⟨vg, vc4, rfl, hvi, hk, _⟩
          have HVG := hid hvi
          have HM4 := hid (HM3.out.same hk)
          have HSA := hid (HSA3.out.same hk)
          have HKA2 := hid (HKA3.out.trans (hk.mono (fun _ h => h.elim)) (fun _ _ h => h))
          have HKF := hid (HFAR.out _ HKA2.out)
          clear hvi hk HWD HM3 HSA3 HKA3
          obtain ⟨wq, hwq⟩ : ∃ wq, wq = w4 := ⟨_, rfl⟩
          rw [← hwq] at HVG HM4 HSA HKA2 HKF
          rw [← hwq]
          clear hwq
          have HGT := hid HGA.out.gate
          have HLG := hid HGA.out.lg
          have hlw := HGA.out.inv.lw
          obtain ⟨xx, hxx⟩ : ∃ xx, rd (aNext b s g dd t').W (b + 3) = xx := ⟨_, rfl⟩
          rw [hxx] at hlw
          have HLV := hid hxx
          clear hxx
          have hx8 : 1 ≤ xx ∧ xx ≤ (s : Int) := by have := hlw.1; unfold p2 at this; omega
          have y4 : IntKind.i64.wrap ((b : Int) + 4) = (b : Int) + 4 := IntWalk.i64_in _ (by omega)
          have y5 : IntKind.i64.wrap ((b : Int) + 4 + (s : Int)) = (b : Int) + 4 + (s : Int) := IntWalk.i64_in _ (by omega)
          have y6 : IntKind.i64.wrap ((b : Int) + 4 + (s : Int) + 3) = (N : Int) := by rw [IntWalk.i64_in _ (by omega)]; have := HN.out; omega
          have y7 : IntKind.i64.wrap ((n : Int) + 1) = (n : Int) + 1 := IntWalk.i64_in _ (by omega)
          have y8 : IntKind.i64.wrap ((b : Int) + 3) = (b : Int) + 3 := IntWalk.i64_in _ (by omega)
          have hx3 : (0 : Int) ≤ (b : Int) + 3 ∧ (b : Int) + 3 < (N : Int) ∧ ((b : Int) + 3).toNat = b + 3 := by omega
          have y9 : IntKind.i64.wrap (xx - 1) = xx - 1 := IntWalk.i64_in _ (by omega)
          have e1 : decide (xx < 1) = false := by simp; omega
          have e2 : decide ((s : Int) < xx) = false := by simp; omega
          have e3 := and_p2 hlw.1
          clear hlw
          go_wp2_with fail
          apply wp_region_free (WI := WLg wq (n + 1)) (by kernel_rfl) (by kernel_rfl)
          case hob =>
            apply ObligF.fixed
            case h =>
              intro S gh w1 hwi hSi hd hcl
              apply StepOk.intro
              intro K hK
              go_simp
              apply hK
              · rfl
              · conv => (lhs; whnf)
              · exact hwi.fixed (by decide)
            simp only [put_lit, put_none]
            try dsimp only [List.set_cons_succ, List.set_cons_zero]
            apply ObligF.fixed
            case h =>
              intro S gh w1 hwi hSi hd hcl
              apply StepOk.intro
              intro K hK
              go_simp
              apply hK
              · rfl
              · conv => (lhs; whnf)
              · exact hwi.fixed (by decide)
            simp only [put_lit, put_none]
            try dsimp only [List.set_cons_succ, List.set_cons_zero]
            apply ObligF.fixed
            case h =>
              intro S gh w1 hwi hSi hd hcl
              apply StepOk.intro
              intro K hK
              go_simp
              apply hK
              · rfl
              · conv => (lhs; whnf)
              · exact hwi.fixed (by decide)
            simp only [put_lit, put_none]
            try dsimp only [List.set_cons_succ, List.set_cons_zero]
            apply ObligF.fixed
            case h =>
              intro S gh w1 hwi hSi hd hcl
              apply StepOk.intro
              intro K hK
              go_simp
              apply hK
              · rfl
              · conv => (lhs; whnf)
              · exact hwi.fixed (by decide)
            simp only [put_lit, put_none]
            try dsimp only [List.set_cons_succ, List.set_cons_zero]
            apply ObligF.fixed
            case h =>
              intro S gh w1 hwi hSi hd hcl
              apply StepOk.intro
              intro K hK
              go_simp
              apply hK
              · rfl
              · conv => (lhs; whnf)
              · exact hwi.fixed (by decide)
            simp only [put_lit, put_none]
            try dsimp only [List.set_cons_succ, List.set_cons_zero]
            apply ObligF.fixed
            case h =>
              intro S gh w1 hwi hSi hd hcl
              apply StepOk.intro
              intro K hK
              go_simp
              apply hK
              · rfl
              · conv => (lhs; whnf)
              · exact hwi.fixed (by decide)
            simp only [put_lit, put_none]
            try dsimp only [List.set_cons_succ, List.set_cons_zero]
            apply ObligF.fixed
            case h =>
              intro S gh w1 hwi hSi hd hcl
              apply StepOk.intro
              intro K hK
              go_simp
              apply hK
              · rfl
              · conv => (lhs; whnf)
              · exact hwi.fixed (by decide)
            simp only [put_lit, put_none]
            try dsimp only [List.set_cons_succ, List.set_cons_zero]
            apply ObligF.fixed
            case h =>
              intro S gh w1 hwi hSi hd hcl
              apply StepOk.intro
              intro K hK
              go_simp
              apply hK
              · rfl
              · conv => (lhs; whnf)
              · exact hwi.fixed (by decide)
            simp only [put_lit, put_none]
            try dsimp only [List.set_cons_succ, List.set_cons_zero]
            apply ObligF.fixed
            case h =>
              intro S gh w1 hwi hSi hd hcl
              apply StepOk.intro
              intro K hK
              go_simp
              apply hK
              · rfl
              · conv => (lhs; whnf)
              · exact hwi.fixed (by decide)
            simp only [put_lit, put_none]
            try dsimp only [List.set_cons_succ, List.set_cons_zero]
            apply ObligF.fixed
            case h =>
              intro S gh w1 hwi hSi hd hcl
              apply StepOk.intro
              intro K hK
              go_simp
              apply hK
              · rfl
              · conv => (lhs; whnf)
              · exact hwi.fixed (by decide)
            simp only [put_lit, put_none]
            try dsimp only [List.set_cons_succ, List.set_cons_zero]
            apply ObligF.free
            case h =>
              intro S gh w1 hwi hSi hd hcl
              apply StepG.intro
              intro K hK
              go_simp
              refine (mem_Log (HM4.out.same hwi.1) (by omega)).mono ?_
              rintro e w2 ⟨A2, c2, rfl, _, hk⟩
              rw [HLG.out]
              apply hK
              · rfl
              · exact WLg.done (Keep0.step hwi.1 hk)
            simp only [put_lit, put_none]
            try dsimp only [List.set_cons_succ, List.set_cons_zero]
            apply ObligF.fixed
            case h =>
              intro S gh w1 hwi hSi hd hcl
              apply StepOk.intro
              intro K hK
              obtain ⟨A1, c1, e1⟩ := hwi.2 (hd ⟨10, .data⟩ (by simp) rfl)
              rw [e1]
              go_simp
              apply hK
              · rfl
              · conv => (lhs; whnf)
              · exact hwi.fixed (by decide)
            simp only [put_lit, put_none]
            try dsimp only [List.set_cons_succ, List.set_cons_zero]
            apply ObligF.fixed
            case h =>
              intro S gh w1 hwi hSi hd hcl
              apply StepOk.intro
              intro K hK
              go_simp
              apply hK
              · rfl
              · conv => (lhs; whnf)
              · exact hwi.fixed (by decide)
            simp only [put_lit, put_none]
            try dsimp only [List.set_cons_succ, List.set_cons_zero]
            apply ObligF.fixed
            case h =>
              intro S gh w1 hwi hSi hd hcl
              apply StepOk.intro
              intro K hK
              go_simp
              apply hK
              · rfl
              · conv => (lhs; whnf)
              · exact hwi.fixed (by decide)
            simp only [put_lit, put_none]
            try dsimp only [List.set_cons_succ, List.set_cons_zero]
            apply ObligF.fixed
            case h =>
              intro S gh w1 hwi hSi hd hcl
              apply StepOk.intro
              intro K hK
              go_simp
              apply hK
              · rfl
              · conv => (lhs; whnf)
              · exact hwi.fixed (by decide)
            simp only [put_lit, put_none]
            try dsimp only [List.set_cons_succ, List.set_cons_zero]
            apply ObligF.fixed
            case h =>
              intro S gh w1 hwi hSi hd hcl
              apply StepOk.intro
              intro K hK
              go_simp
              apply hK
              · rfl
              · conv => (lhs; whnf)
              · exact hwi.fixed (by decide)
            simp only [put_lit, put_none]
            try dsimp only [List.set_cons_succ, List.set_cons_zero]
            apply ObligF.fixed
            case h =>
              intro S gh w1 hwi hSi hd hcl
              apply StepOk.intro
              intro K hK
              go_simp
              apply hK
              · rfl
              · conv => (lhs; whnf)
              · exact hwi.fixed (by decide)
            simp only [put_lit, put_none]
            try dsimp only [List.set_cons_succ, List.set_cons_zero]
            apply ObligF.fixed
            case h =>
              intro S gh w1 hwi hSi hd hcl
              apply StepOk.intro
              intro K hK
              go_simp
              apply hK
              · rfl
              · conv => (lhs; whnf)
              · exact hwi.fixed (by decide)
            simp only [put_lit, put_none]
            try dsimp only [List.set_cons_succ, List.set_cons_zero]
            apply ObligF.fixed
            case h =>
              intro S gh w1 hwi hSi hd hcl
              apply StepOk.intro
              intro K hK
              go_simp
              apply hK
              · rfl
              · conv => (lhs; whnf)
              · exact hwi.fixed (by decide)
            simp only [put_lit, put_none]
            try dsimp only [List.set_cons_succ, List.set_cons_zero]
            apply ObligF.fixed
            case h =>
              intro S gh w1 hwi hSi hd hcl
              apply StepOk.intro
              intro K hK
              go_simp
              apply hK
              · rfl
              · conv => (lhs; whnf)
              · exact hwi.fixed (by decide)
            simp only [put_lit, put_none]
            try dsimp only [List.set_cons_succ, List.set_cons_zero]
            apply ObligF.fixed
            case h =>
              intro S gh w1 hwi hSi hd hcl
              apply StepOk.intro
              intro K hK
              go_simp
              apply hK
              · rfl
              · conv => (lhs; whnf)
              · exact hwi.fixed (by decide)
            simp only [put_lit, put_none]
            try dsimp only [List.set_cons_succ, List.set_cons_zero]
            apply ObligF.fixed
            case h =>
              intro S gh w1 hwi hSi hd hcl
              apply StepOk.intro
              intro K hK
              have c1 := (hwi.1.ints HVG.out (fun h => h)).cell (b + 3) (by omega)
              have z1 := (hwi.1.ints HVG.out (fun h => h)).lt
              rw [HLV.out] at c1
              go_simp
              apply hK
              · rfl
              · conv => (lhs; whnf)
              · exact hwi.fixed (by decide)
            simp only [put_lit, put_none]
            try dsimp only [List.set_cons_succ, List.set_cons_zero]
            apply ObligF.fixed
            case h =>
              intro S gh w1 hwi hSi hd hcl
              apply StepOk.intro
              intro K hK
              go_simp
              apply hK
              · rfl
              · conv => (lhs; whnf)
              · exact hwi.fixed (by decide)
            simp only [put_lit, put_none]
            try dsimp only [List.set_cons_succ, List.set_cons_zero]
            apply ObligF.fixed
            case h =>
              intro S gh w1 hwi hSi hd hcl
              apply StepOk.intro
              intro K hK
              go_simp
              apply hK
              · rfl
              · conv => (lhs; whnf)
              · exact hwi.fixed (by decide)
            simp only [put_lit, put_none]
            try dsimp only [List.set_cons_succ, List.set_cons_zero]
            apply ObligF.fixed
            case h =>
              intro S gh w1 hwi hSi hd hcl
              apply StepOk.intro
              intro K hK
              go_simp
              apply hK
              · rfl
              · conv => (lhs; whnf)
              · exact hwi.fixed (by decide)
            simp only [put_lit, put_none]
            try dsimp only [List.set_cons_succ, List.set_cons_zero]
            apply ObligF.fixed
            case h =>
              intro S gh w1 hwi hSi hd hcl
              apply StepOk.intro
              intro K hK
              go_simp
              apply hK
              · rfl
              · conv => (lhs; whnf)
              · exact hwi.fixed (by decide)
            simp only [put_lit, put_none]
            try dsimp only [List.set_cons_succ, List.set_cons_zero]
            apply ObligF.fixed
            case h =>
              intro S gh w1 hwi hSi hd hcl
              apply StepOk.intro
              intro K hK
              go_simp
              apply hK
              · rfl
              · conv => (lhs; whnf)
              · exact hwi.fixed (by decide)
            simp only [put_lit, put_none]
            try dsimp only [List.set_cons_succ, List.set_cons_zero]
            apply ObligF.fixed
            case h =>
              intro S gh w1 hwi hSi hd hcl
              apply StepOk.intro
              intro K hK
              go_simp
              apply hK
              · rfl
              · conv => (lhs; whnf)
              · exact hwi.fixed (by decide)
            simp only [put_lit, put_none]
            try dsimp only [List.set_cons_succ, List.set_cons_zero]
            apply ObligF.fixed
            case h =>
              intro S gh w1 hwi hSi hd hcl
              apply StepOk.intro
              intro K hK
              go_simp
              apply hK
              · rfl
              · conv => (lhs; whnf)
              · exact hwi.fixed (by decide)
            simp only [put_lit, put_none]
            try dsimp only [List.set_cons_succ, List.set_cons_zero]
            apply ObligF.fixed
            case h =>
              intro S gh w1 hwi hSi hd hcl
              apply StepOk.intro
              intro K hK
              have c1 := (hwi.1.ints HVG.out (fun h => h)).cell (b + 3) (by omega)
              have z1 := (hwi.1.ints HVG.out (fun h => h)).lt
              rw [HLV.out] at c1
              go_simp
              apply hK
              · rfl
              · conv => (lhs; whnf)
              · exact hwi.fixed (by decide)
            simp only [put_lit, put_none]
            try dsimp only [List.set_cons_succ, List.set_cons_zero]
            apply ObligF.fixed
            case h =>
              intro S gh w1 hwi hSi hd hcl
              apply StepOk.intro
              intro K hK
              go_simp
              apply hK
              · rfl
              · conv => (lhs; whnf)
              · exact hwi.fixed (by decide)
            simp only [put_lit, put_none]
            try dsimp only [List.set_cons_succ, List.set_cons_zero]
            apply ObligF.fixed
            case h =>
              intro S gh w1 hwi hSi hd hcl
              apply StepOk.intro
              intro K hK
              go_simp
              apply hK
              · rfl
              · conv => (lhs; whnf)
              · exact hwi.fixed (by decide)
            simp only [put_lit, put_none]
            try dsimp only [List.set_cons_succ, List.set_cons_zero]
            apply ObligF.fixed
            case h =>
              intro S gh w1 hwi hSi hd hcl
              apply StepOk.intro
              intro K hK
              go_simp
              apply hK
              · rfl
              · conv => (lhs; whnf)
              · exact hwi.fixed (by decide)
            simp only [put_lit, put_none]
            try dsimp only [List.set_cons_succ, List.set_cons_zero]
            apply ObligF.fixed
            case h =>
              intro S gh w1 hwi hSi hd hcl
              apply StepOk.intro
              intro K hK
              go_simp
              apply hK
              · rfl
              · conv => (lhs; whnf)
              · exact hwi.fixed (by decide)
            simp only [put_lit, put_none]
            try dsimp only [List.set_cons_succ, List.set_cons_zero]
            apply ObligF.fixed
            case h =>
              intro S gh w1 hwi hSi hd hcl
              apply StepOk.intro
              intro K hK
              go_simp
              apply hK
              · rfl
              · conv => (lhs; whnf)
              · exact hwi.fixed (by decide)
            simp only [put_lit, put_none]
            try dsimp only [List.set_cons_succ, List.set_cons_zero]
            apply ObligF.fixed
            case h =>
              intro S gh w1 hwi hSi hd hcl
              apply StepOk.intro
              intro K hK
              go_simp
              apply hK
              · rfl
              · conv => (lhs; whnf)
              · exact hwi.fixed (by decide)
            simp only [put_lit, put_none]
            try dsimp only [List.set_cons_succ, List.set_cons_zero]
            apply ObligF.fixed
            case h =>
              intro S gh w1 hwi hSi hd hcl
              apply StepOk.intro
              intro K hK
              go_simp
              apply hK
              · rfl
              · conv => (lhs; whnf)
              · exact hwi.fixed (by decide)
            simp only [put_lit, put_none]
            try dsimp only [List.set_cons_succ, List.set_cons_zero]
            apply ObligF.fixed
            case h =>
              intro S gh w1 hwi hSi hd hcl
              apply StepOk.intro
              intro K hK
              go_simp
              apply hK
              · rfl
              · conv => (lhs; whnf)
              · exact hwi.fixed (by decide)
            simp only [put_lit, put_none]
            try dsimp only [List.set_cons_succ, List.set_cons_zero]
            apply ObligF.fixed
            case h =>
              intro S gh w1 hwi hSi hd hcl
              apply StepOk.intro
              intro K hK
              have c1 := (hwi.1.ints HVG.out (fun h => h)).cell (b + 3) (by omega)
              have z1 := (hwi.1.ints HVG.out (fun h => h)).lt
              rw [HLV.out] at c1
              go_simp
              apply hK
              · rfl
              · conv => (lhs; whnf)
              · exact hwi.fixed (by decide)
            simp only [put_lit, put_none]
            try dsimp only [List.set_cons_succ, List.set_cons_zero]
            apply ObligF.fixed
            case h =>
              intro S gh w1 hwi hSi hd hcl
              apply StepOk.intro
              intro K hK
              go_simp
              apply hK
              · rfl
              · conv => (lhs; whnf)
              · exact hwi.fixed (by decide)
            simp only [put_lit, put_none]
            try dsimp only [List.set_cons_succ, List.set_cons_zero]
            apply ObligF.fixed
            case h =>
              intro S gh w1 hwi hSi hd hcl
              apply StepOk.intro
              intro K hK
              go_simp
              apply hK
              · rfl
              · conv => (lhs; whnf)
              · exact hwi.fixed (by decide)
            simp only [put_lit, put_none]
            try dsimp only [List.set_cons_succ, List.set_cons_zero]
            apply ObligF.fixed
            case h =>
              intro S gh w1 hwi hSi hd hcl
              apply StepOk.intro
              intro K hK
              go_simp
              apply hK
              · rfl
              · conv => (lhs; whnf)
              · exact hwi.fixed (by decide)
            simp only [put_lit, put_none]
            try dsimp only [List.set_cons_succ, List.set_cons_zero]
            apply ObligF.fixed
            case h =>
              intro S gh w1 hwi hSi hd hcl
              apply StepOk.intro
              intro K hK
              go_simp
              apply hK
              · rfl
              · conv => (lhs; whnf)
              · exact hwi.fixed (by decide)
            simp only [put_lit, put_none]
            try dsimp only [List.set_cons_succ, List.set_cons_zero]
            apply ObligF.fixed
            case h =>
              intro S gh w1 hwi hSi hd hcl
              apply StepOk.intro
              intro K hK
              have c1 := (hwi.1.ints HVG.out (fun h => h)).cell (b + 3) (by omega)
              have z1 := (hwi.1.ints HVG.out (fun h => h)).lt
              rw [HLV.out] at c1
              go_simp
              apply hK
              · rfl
              · conv => (lhs; whnf)
              · exact hwi.fixed (by decide)
            simp only [put_lit, put_none]
            try dsimp only [List.set_cons_succ, List.set_cons_zero]
            apply ObligF.fixed
            case h =>
              intro S gh w1 hwi hSi hd hcl
              apply StepOk.intro
              intro K hK
              go_simp
              apply hK
              · rfl
              · conv => (lhs; whnf)
              · exact hwi.fixed (by decide)
            simp only [put_lit, put_none]
            try dsimp only [List.set_cons_succ, List.set_cons_zero]
            apply ObligF.fixed
            case h =>
              intro S gh w1 hwi hSi hd hcl
              apply StepOk.intro
              intro K hK
              go_simp
              apply hK
              · rfl
              · conv => (lhs; whnf)
              · exact hwi.fixed (by decide)
            simp only [put_lit, put_none]
            try dsimp only [List.set_cons_succ, List.set_cons_zero]
            apply ObligF.fixed
            case h =>
              intro S gh w1 hwi hSi hd hcl
              apply StepOk.intro
              intro K hK
              go_simp
              apply hK
              · rfl
              · conv => (lhs; whnf)
              · exact hwi.fixed (by decide)
            simp only [put_lit, put_none]
            try dsimp only [List.set_cons_succ, List.set_cons_zero]
            apply ObligF.fixed
            case h =>
              intro S gh w1 hwi hSi hd hcl
              apply StepOk.intro
              intro K hK
              go_simp
              apply hK
              · rfl
              · conv => (lhs; whnf)
              · exact hwi.fixed (by decide)
            simp only [put_lit, put_none]
            try dsimp only [List.set_cons_succ, List.set_cons_zero]
            exact ObligF.nil
          case h0 =>
            exact ⟨(Keep.refl _ _).drew, (fun h => by cases h)⟩
          case hend =>
            intro S gh wx hwi hall
            have HKX := hid hwi.1
            clear hwi hall
            simp only [Nat.reduceAdd]
            generalize gh 10 = g10 at *
            go_wp2_with fail
            go_loopw [21] (fun v wy => ∃ i : Nat, i ≤ s ∧ v = .int .i64 i ∧ Keep0 wq wy) (fun v _ => s - (intOf v).toNat)
            case atStart => exact ⟨0, Nat.zero_le _, rfl, HKX.out⟩
            case round =>
              obtain ⟨i, hi, rfl, hk⟩ := hrel
              have HKY := hid hk
              clear hk HKX
              by_cases hlt : i < s
              · have c1 := (HKY.out.ints HVG.out (fun h => h)).cell (b + 4 + i) (by omega)
                have z1 := (HKY.out.ints HVG.out (fun h => h)).lt
                have hga := HGT.out i hlt
                have q1 : (0 : Int) ≤ (b : Int) + 4 + (i : Int) ∧ (b : Int) + 4 + (i : Int) < (N : Int) ∧ ((b : Int) + 4 + (i : Int)).toNat = b + 4 + i := by omega
                have q2 : IntKind.i64.wrap ((b : Int) + 4 + (i : Int)) = (b : Int) + 4 + (i : Int) := IntWalk.i64_in _ (by omega)
                have q3 : IntKind.i64.wrap (-(g : Int)) = -(g : Int) := IntWalk.i64_in _ (by omega)
                have q5 : IntKind.i64.wrap ((i : Int) + 1) = (i : Int) + 1 := IntWalk.i64_in _ (by omega)
                generalize rd (aNext b s g dd t').W (b + 4 + i) = yy at *
                go_wp2_with fail
                refine (ref1_Value yy _).mono ?_
                rintro e w0 ⟨rfl, rfl⟩
                have d1 : decide (pVal yy ≤ -(g : Int)) = false := by simp; omega
                have d2 : decide ((g : Int) ≤ pVal yy) = false := by simp; omega
                generalize pVal yy = pv at *
                go_wp2_with fail
                go_roundw
                case rel => exact ⟨i + 1, by omega, by go_num, HKY.out⟩
                case measure => simp [intOf]; omega
              · obtain rfl : i = s := by omega
                cases is9
                · have h := HB9.out
                  have h9 := of_decide_eq_false h
                  clear h
                  go_wp2_with fail
                  go_roundw
                  case rel => exact ⟨n + 1, by omega, by go_num, _, HSA.out.same HKY.out, HGA.out, by have := HGA.out.inv.nx; omega, HKA2.out.trans (HKY.out.mono (fun _ h => h.elim)) (fun _ _ h => h)⟩
                  case measure => simp [intOf]; omega
                · go_wp2_with fail
                  go_ret
                  exact ⟨rfl, HKF.out.trans HKY.out (fun _ _ h => h)⟩
    · obtain rfl : n = 60 := by omega
      go_wp2_with fail
      go_ret
      exact ⟨rfl, HFAR.out _ HKR.out⟩
end Go.Proofs.Ytchlmaphaeoplaa
