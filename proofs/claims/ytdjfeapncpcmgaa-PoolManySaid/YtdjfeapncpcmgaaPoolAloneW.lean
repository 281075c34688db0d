/- PoolAlone: alone a machine is refused just if both its lease and what is available are below what it asks for. -/
import Derived.Test.YtdjfeapncpcmgaaPoolT
namespace Go.Proofs.Ytdjfeapncpcmgaa
open Go.RowKit
set_option linter.unusedVariables false
set_option linter.unusedSimpArgs false
set_option maxRecDepth 100000

set_option maxHeartbeats 2000000 in
theorem ref8_Left (t g l r k : Int) (s : Nat) (PA : Option Addr) (pn pc : Nat) (LA : Option Addr) (ln lc : Nat) (v : Int) (av wg wc : Nat) (W : List Int) (w : World) (hi : Ints w wg W) (hW : W.length ≤ 10000) (hs0 : 1 ≤ s) (hs1 : s ≤ 8) (h0 : 0 ≤ v) (h1 : v ≤ 1000)
    (hav : (av : Int) = v * (6 + 2 * s) + 1) (hin : av + 1 + s ≤ W.length) (hb : ∀ i, -4398046511104 ≤ rd W i ∧ rd W i ≤ 4398046511104) :
    Calls Try.prog 26 #[.slice (some ⟨wg, 0, none⟩) W.length wc, .agg #[i64 t, i64 s, i64 g, i64 l, i64 r, i64 k, .slice PA pn pc, .slice LA ln lc], i64 v] w (Ret (i64 (leftN W av s)) w) := by
  have HI := hid hi
  have HBD := hid hb
  have HAV := hid hav
  have HCB : Hid (Blk (w.alloc (.cells #[i64 t, i64 s, i64 g, i64 l, i64 r, i64 k, .slice PA pn pc, .slice LA ln lc] 40)) w.heap.size 40 [i64 t, i64 s, i64 g, i64 l, i64 r, i64 k, .slice PA pn pc, .slice LA ln lc]) := hid (Blk.made rfl rfl)
  have HK0 : Hid (Keep0 w (w.alloc (.cells #[i64 t, i64 s, i64 g, i64 l, i64 r, i64 k, .slice PA pn pc, .slice LA ln lc] 40))) := hid ((Keep.refl _ _).alloc _)
  have HI0 := hid (hi.alloc (.cells #[i64 t, i64 s, i64 g, i64 l, i64 r, i64 k, .slice PA pn pc, .slice LA ln lc] 40))
  have qb0 := HCB.out.k8
  clear hi hb hav
  go_enter Try.func26, Try.ntmps26
  go_wp2_with fail
  refine Calls.mono (show Calls Try.prog 25 #[.agg #[i64 t, i64 s, i64 g, i64 l, i64 r, i64 k, .slice PA pn pc, .slice LA ln lc], i64 v] _ (Ret (i64 av) _) from by have h := ref_Avail t s g l r k PA pn pc LA ln lc v (w.alloc (.cells #[i64 t, i64 s, i64 g, i64 l, i64 r, i64 k, .slice PA pn pc, .slice LA ln lc] 40)) (by omega) (by omega) h0 h1; rw [← HAV.out] at h; exact h) ?_
  rintro e w1 ⟨rfl, hk⟩
  have HI1 := hid (hk.ints HI0.out (fun h => h))
  have HB1 := hid (hk.blk HCB.out (fun h => h))
  have HK1 : Hid (Keep0 w w1) := hid (Keep0.step HK0.out hk)
  have c1 := HI1.out.cell av (by omega)
  have z1 := HI1.out.lt
  clear hk HI0 HCB HK0 qb0 HI
  go_wp2_with fail
  go_loopw [7, 8] (fun v7 v8 wr => ∃ i : Nat, i ≤ s ∧ v8 = .int .i64 i ∧ v7 = .int .i64 (leftN W av i) ∧ Keep0 w1 wr) (fun _ v _ => s - (intOf v).toNat)
  case atStart => exact ⟨0, Nat.zero_le _, rfl, rfl, Keep.refl _ _⟩
  case round =>
    obtain ⟨i, hi, rfl, rfl, hk⟩ := hrel
    have HK := hid hk
    have HIR := hid (hk.ints HI1.out (fun h => h))
    have HBR := hid (hk.blk HB1.out (fun h => h))
    have qbr := HBR.out.k8
    clear hk c1 z1
    by_cases hlt : i < s
    · go_wp2_with fail
      refine Calls.mono (show Calls Try.prog 24 #[.agg #[i64 t, i64 s, i64 g, i64 l, i64 r, i64 k, .slice PA pn pc, .slice LA ln lc], i64 v, i64 i] wr (Ret (i64 ((av + 1 + i : Nat) : Int)) wr) from by have h := ref_Lease t s g l r k PA pn pc LA ln lc v i wr (by omega) (by omega) h0 h1 (by omega) (by omega); rw [show v * (6 + 2 * (s : Int)) + 2 + (i : Int) = ((av + 1 + i : Nat) : Int) from by have := HAV.out; omega] at h; exact h) ?_
      rintro e w2 ⟨rfl, hk⟩
      have HI2 := hid (hk.ints HIR.out (fun h => h))
      have HK2 := hid (HK.out.trans hk (fun _ _ h => h))
      have c2 := HI2.out.cell (av + 1 + i) (by omega)
      have z2 := HI2.out.lt
      have b1 := leftN_bound W av 4398046511104 HBD.out i
      have b2 := HBD.out (av + 1 + i)
      have HN : Hid (leftN W av (i + 1) = leftN W av i + rd W (av + 1 + i)) := hid rfl
      clear hk
      generalize leftN W av i = N at *
      generalize rd W (av + 1 + i) = y at *
      have hy : IntKind.i64.wrap (N + y) = N + y := IntWalk.i64_in _ (by omega)
      go_wp2_with fail
      go_roundw
      case rel => exact ⟨i + 1, by omega, by go_num, by rw [HN.out], HK2.out⟩
      case measure => simp [intOf]; omega
    · obtain rfl : i = s := by omega
      go_wp2_with fail
      go_ret
      exact ⟨rfl, HK1.out.trans HK.out (fun _ _ h => h)⟩

theorem pNext_other {av le : Nat} {n lim : Int} (t : PS) (i : Nat) (h1 : i ≠ av) (h2 : i ≠ le) : rd (pNext av le n lim t).W i = rd t.W i := by
  unfold pNext
  repeat' split
  all_goals simp [rd_casW, rd_set, h1, h2]

set_option maxHeartbeats 4000000 in
theorem poolAlone_walk {w : World} {v0 : Value} (hc : PoolIn w v0) : Calls Try.prog 4 #[v0] w (Ret (.bool true) w) := by
  obtain ⟨t, s, g, l, r, k, P, L, PA, pc, LA, lc, nd, nn, st, avl, Q, QA, qc, K, KA, kc, rfl, hP, hL, hp1, hl1, hnd, hnn, hst, havl, hQ, hq1, hq2, hK, hk1⟩ := hc
  have HB : Hid (Blk (w.alloc (.cells #[i64 t, i64 s, i64 g, i64 l, i64 r, i64 k, .slice PA P.length pc, .slice LA L.length lc, .int .u8 nd, .int .u32 nn, .int .u8 st, .int .u32 avl, .slice QA Q.length qc, .slice KA K.length kc] 45)) w.heap.size 45 [i64 t, i64 s, i64 g, i64 l, i64 r, i64 k, .slice PA P.length pc, .slice LA L.length lc, .int .u8 nd, .int .u32 nn, .int .u8 st, .int .u32 avl, .slice QA Q.length qc, .slice KA K.length kc]) := hid (Blk.made rfl rfl)
  have HK0 : Hid (Keep0 w (w.alloc (.cells #[i64 t, i64 s, i64 g, i64 l, i64 r, i64 k, .slice PA P.length pc, .slice LA L.length lc, .int .u8 nd, .int .u32 nn, .int .u8 st, .int .u32 avl, .slice QA Q.length qc, .slice KA K.length kc] 45))) := hid ((Keep.refl _ _).alloc _)
  have HGD := hid (fun (w' : World) (hk : Keep0 w w') => law8_Good t s g l r k PA P pc LA L lc nd nn st avl QA Q qc KA K kc w' (hP.keep hk) (hL.keep hk) hp1 hl1 hq1 hk1)
  have HWO := hid (fun (w' : World) (hk : Keep0 w w') hR hq => law8_Words t s g l r k PA P pc LA L lc nd nn st avl QA Q qc KA K kc w' (hP.keep hk) (hL.keep hk) (hQ.keep hk) hR hnd hnn hst havl hq hq2)
  have HPK := hid (fun (w' : World) (hk : Keep0 w w') hR hk40 => law8_Pokes t s g l r k PA P pc LA L lc nd nn st avl QA Q qc KA K kc w' (hK.keep hk) hR hnd hnn hst hk40)
  clear hP hL hQ hK hq2
  go_enter Try.func4, Try.ntmps4
  go_wp2_with fail
  have qHB := HB.out.k14
  refine (law8_head _).mono ?_
  rintro e w1 ⟨rfl, hk⟩
  have HK1 : Hid (Keep0 w w1) := hid (Keep0.step HK0.out hk)
  have T := hk.blk HB.out (fun h => h)
  clear hk HB HK0 qHB
  have HB := hid T
  clear T
  have qHB := HB.out.k14
  go_wp2_with fail
  refine (HGD.out _ HK1.out).mono ?_
  rintro e w2 ⟨rfl, hk⟩
  have HK2 : Hid (Keep0 w w2) := hid (Keep0.step HK1.out hk)
  have T := hk.blk HB.out (fun h => h)
  clear hk HB HK1 qHB HGD hp1 hl1 hq1 hk1
  have HB := hid T
  clear T
  have qHB := HB.out.k14
  cases hgood : good8B t s g l r k P L Q.length K.length
  · go_wp2
    go_ret
    exact ⟨rfl, HK2.out⟩
  · simp only [good8B, Bool.and_eq_true, decide_eq_true_eq] at hgood
    obtain ⟨⟨hgood, hk40⟩, hq20⟩ := hgood
    have R := Right.of hgood
    clear hgood
    obtain ⟨s, rfl⟩ := Int.eq_ofNat_of_zero_le (show 0 ≤ s by have := R.sb; omega)
    have hs := R.sb
    have hp := R.p
    have hl := R.l
    have hkk := R.k
    have hlen := R.len
    have HOF := hid (fun (w' : World) => law8_Of t (s : Int) g l r k PA P pc LA L lc nd nn st avl QA Q qc KA K kc w' ⟨hp.1, by omega⟩ hs hnd hnn hst)
    have HWO2 := hid (fun w' hk => HWO.out w' hk R hq20)
    have HPK2 := hid (fun w' hk => HPK.out w' hk R hk40)
    clear HWO HPK
    have hv0 := Int.emod_nonneg nd (show (P.length : Int) ≠ 0 by omega)
    have hv1 := Int.emod_lt_of_pos nd (show (0 : Int) < P.length by omega)
    have hu0 := Int.emod_nonneg st (show (s : Int) ≠ 0 by omega)
    have hu1 := Int.emod_lt_of_pos st (show (0 : Int) < s by omega)
    have hn0 := Int.emod_nonneg nn (show (1048576 : Int) ≠ 0 by omega)
    have hn1 := Int.emod_lt_of_pos nn (show (0 : Int) < 1048576 by omega)
    generalize nd % (P.length : Int) = v at *
    generalize st % (s : Int) = u at *
    generalize hne : nn % 1048576 + 1 = n at *
    have hn : 1 ≤ n ∧ n ≤ 1048576 := by omega
    clear hne hn0 hn1
    have PW := poolWords R (v := v) (avl := avl) (Q := Q) ⟨hv0, hv1⟩ havl
    have hm1 := mul_bd 12 22 hv0 (by omega) (show 0 ≤ 6 + 2 * (s : Int) by omega) (by omega)
    have hm4 := mul_bd 12 22 (show (0 : Int) ≤ P.length by omega) (by omega) (show 0 ≤ 6 + 2 * (s : Int) by omega) (by omega)
    obtain ⟨av, hav⟩ := Int.eq_ofNat_of_zero_le (show 0 ≤ v * (6 + 2 * (s : Int)) + 1 by omega)
    rw [show (v * (6 + 2 * (s : Int)) + 1).toNat = av from by omega] at PW
    have hav0 : av ≤ 300 := by omega
    have HAV := hid hav.symm
    clear hav
    obtain ⟨u, rfl⟩ := Int.eq_ofNat_of_zero_le hu0
    have hus : u < s := by omega
    have hfit := PW.fit
    rw [Int.toNat_natCast] at hfit
    have hWl := PW.len
    generalize hWW : words8 (s : Int) k l L P.length v avl Q = WW at *
    clear hWW
    have HN : Hid ((P.length : Int) * (6 + 2 * (s : Int)) + 2 * k = (WW.length : Int)) := hid (by have := hkk; omega)
    have hWm : WW.length ≤ 10000 := by omega
    rw [← hWl] at hfit
    clear hWl
    have hPI : PInv av (av + 1 + u) n l 4294967296 ⟨WW, [], 0, 0, 0, 0, false⟩ := PInv.start (by omega) (by omega) (by omega) hn hl (PW.lease u (by rw [Int.toNat_natCast]; exact hus)) (by rw [PW.isav]; omega)
    have HPI := hid hPI
    have HPW := hid PW
    have HR := hid R
    clear hPI PW R hm4 hlen
    go_wp2_with fail
    refine (HOF.out _).mono ?_
    rintro e w3 ⟨rfl, hk⟩
    have HK3 : Hid (Keep0 w w3) := hid (Keep0.step HK2.out hk)
    have T := hk.blk HB.out (fun h => h)
    clear hk HB HK2 qHB HOF
    have HB := hid T
    clear T
    have qHB := HB.out.k14
    go_wp2_with fail
    refine (HWO2.out _ HK3.out).mono ?_
    rintro e w4 ⟨WA, Wc, rfl, how, hk⟩
    have HK4 : Hid (Keep0 w w4) := hid (Keep0.step HK3.out hk)
    have T := hk.blk HB.out (fun h => h)
    clear hk HB HK3 qHB HWO2
    have HB := hid T
    clear T
    have qHB := HB.out.k14
    obtain ⟨wg, rfl, hwg, hwge⟩ := ints_own how (by omega) rfl
    have HWG := hid hwg
    have HOW := hid how
    clear hwg how
    go_wp2_with fail
    refine (law8_Laid w.heap.size _ _ _ WW HWG.out.at_ hWm HK4.out.size).mono ?_
    rintro e w5 ⟨m, a, lv5, rfl, hm, hk, hzm, hza⟩
    have HM5 := hid hm
    have HK5 : Hid (Keep0 w w5) := hid (Keep0.step HK4.out hk)
    have hzm' := Nat.le_trans HK4.out.size hzm
    have hza' := Nat.le_trans HK4.out.size hza
    have HWG5 := hid (hk.ints HWG.out (fun h => h))
    have HOW5 := hid (ownsRow_keep HOW.out hk (fun _ _ h => h))
    have hwgm : wg ≠ a := by have := HWG.out.lt; omega
    have hwgm2 : wg ≠ m := by have := HWG.out.lt; omega
    have T := hk.blk HB.out (fun h => h)
    clear hk hm hzm hza HB HK4 qHB HWG HOW
    have HB := hid T
    clear T
    have qHB := HB.out.k14
    have HLL := hid (show ∀ (w' : World) lv (W : List Int) L, MemAt w.heap.size w' m a lv W L → ∀ k, MF m a lv k → w.heap.size ≤ k from by
      rintro w' lv W L h k (rfl | rfl | h2)
      · exact hzm'
      · exact hza'
      · exact (h.log.lt k h2).1)
    go_wp2_with fail
    refine (pool_New t (s : Int) g l r k PA P.length pc LA L.length lc v n (u : Int) _ hs.1 hs.2 hv0 (by omega) (by omega) (by omega)).mono ?_
    rintro e w6 ⟨x, rfl, hb, hk, hx⟩
    rw [show v * (6 + 2 * (s : Int)) + 1 = (av : Int) from HAV.out.symm, show v * (6 + 2 * (s : Int)) + 2 + (u : Int) = ((av + 1 + u : Nat) : Int) from by have := HAV.out; omega] at hb
    have HX6 := hid (show Blk w6 x 100 (pcs av (av + 1 + u) v n l 0 ⟨WW, [], 0, 0, 0, 0, false⟩) from hb)
    have HM6 := hid (HM5.out.same hk)
    have HK6 : Hid (Keep0 w w6) := hid (Keep0.step HK5.out hk)
    have hzx := Nat.le_trans HK5.out.size hx
    have HWG6 := hid (hk.ints HWG5.out (fun h => h))
    have HOW6 := hid (ownsRow_keep HOW5.out hk (fun _ _ h => h))
    have hwgx : wg ≠ x := by have := HWG5.out.lt; omega
    have T := hk.blk HB.out (fun h => h)
    clear hk hb hx HM5 HB HK5 qHB HWG5 HOW5
    have HB := hid T
    clear T
    have qHB := HB.out.k14
    go_wp2_with fail
    have hp := play_pool (B := w.heap.size) (w := w6) (m := m) (a := a) (x := x) (lv := lv5) (av := av) (le := av + 1 + u) (nd := v) (n := n) (lim := l) (X := 4294967296) ⟨WW, [], 0, 0, 0, 0, false⟩ [] none 0 0 0 300 HM6.out HX6.out HPI.out (by simp) (by omega) (by omega) (by simp) (by intro p hp; cases hp) (fun h => by simp at h) (fun i h => by simp at h)
    obtain ⟨pt, pk, hpf, hk2, hk5, ht, hbd, hsame, hleft⟩ := pAlone (s := s) HPI.out hus (by omega) WW.length
    have hex := pPlay_exact (av := av) (le := av + 1 + u) (n := n) (lim := l) (X := 4294967296) WW.length [] (by intro p hp; cases hp) (by omega) (PExact.start HPI.out) 300 (by omega)
    rw [show (PS.mk WW [] 0 0 0 0 false).W.length = WW.length from rfl, hpf] at hp
    rw [hpf] at hex
    try simp only at hp hex
    have hoth := playF_inv (fun _ t => ∀ i, i ≠ av → i ≠ av + 1 + u → rd t.W i = rd WW i) (stp := pStp av (av + 1 + u) n l) (pk := pPk) (len := WW.length) (l := []) (fun _ _ h => h) (fun _ t h i h1 h2 => (pNext_other t i h1 h2).trans (h i h1 h2)) 300 0 ⟨WW, [], 0, 0, 0, 0, false⟩ (fun _ _ _ => rfl)
    rw [hpf] at hoth
    try simp only at hoth
    have HALL := hid HPW.out.all
    refine hp.mono ?_
    rintro e w7 ⟨rfl, ⟨kk, lv7, hm, ho, hx, hl7, _⟩, hk⟩
    have hlog := own_own_ne HOW6.out HM6.out.log (by decide) wg rfl
    have HM7 := hid hm
    have HX7 := hid hx
    have HB7 := hid (play_keeps HB.out HM6.out HX6.out (by decide) (by decide) (by decide) (by decide) hk)
    have HWG7 := hid (hk.ints HWG6.out (by
      have := HWG6.out.lt
      rintro ((h | h | h | h) | h)
      · exact hwgm2 h
      · exact hwgm h
      · exact hwgx h
      · exact hlog h
      · omega))
    have HK7 : Hid (Keep0 w w7) := hid (play_far HM6.out hzx hk w HK6.out (Nat.le_refl _))
    try simp only at hl7
    clear hp hm ho hx hk hlog HM6 HX6 HB qHB HK6 HWG6 HOW6 HPI HPW HR HPK2 hpf
    have qB7 := HB7.out.k14
    have c17 := HWG7.out.cell (av + 1 + u) (by omega)
    have c27 := HWG7.out.cell av (by omega)
    have zz7 := HWG7.out.lt
    have g5 : ¬ 5 < pk := by omega
    have g2 : ¬ pk < 2 := by omega
    have HALL2 : Hid (∀ i, -4398046511104 ≤ rd pt.W i ∧ rd pt.W i ≤ 4398046511104) := hid (fun i => by
      have h1 := hex.inv.wa
      have h2 := hex.inv.wl
      by_cases e1 : i = av
      · subst e1; omega
      · by_cases e2 : i = av + 1 + u
        · subst e2; omega
        · rw [hoth i e1 e2]; exact HALL.out i)
    clear hoth hex
    by_cases c1 : rd WW (av + 1 + u) < n
    · by_cases c2 : rd WW av < n
      · have hbad : pt.bad = true := by rw [hbd]; simp [c1, c2]
        have hPW := hsame hbad
        clear hbd hsame hleft
        go_wp2_with fail
        refine Calls.mono (show Calls Try.prog 24 #[.agg #[i64 t, i64 s, i64 g, i64 l, i64 r, i64 k, .slice PA P.length pc, .slice LA L.length lc], i64 v, i64 u] w7 (Ret (i64 ((av + 1 + u : Nat) : Int)) w7) from by have h := ref_Lease t (s : Int) g l r k PA P.length pc LA L.length lc v (u : Int) w7 hs.1 hs.2 hv0 (by omega) (by omega) (by omega); rw [show v * (6 + 2 * (s : Int)) + 2 + (u : Int) = ((av + 1 + u : Nat) : Int) from by have := HAV.out; omega] at h; exact h) ?_
        rintro e w8 ⟨rfl, hk⟩
        have HM8 := hid (HM7.out.same hk)
        have HX8 := hid (hk.blk HX7.out (fun h => h))
        have HB8 := hid (hk.blk HB7.out (fun h => h))
        have HWG8 := hid (hk.ints HWG7.out (fun h => h))
        have HK8 : Hid (Keep0 w w8) := hid (Keep0.step HK7.out hk)
        clear hk HM7 HX7 HB7 HWG7 HK7 qB7 c17 c27 zz7
        have qB8 := HB8.out.k14
        have c18 := HWG8.out.cell (av + 1 + u) (by omega)
        have c28 := HWG8.out.cell av (by omega)
        have zz8 := HWG8.out.lt
        go_wp2_with fail
        refine Calls.mono (show Calls Try.prog 25 #[.agg #[i64 t, i64 s, i64 g, i64 l, i64 r, i64 k, .slice PA P.length pc, .slice LA L.length lc], i64 v] w8 (Ret (i64 av) w8) from by have h := ref_Avail t (s : Int) g l r k PA P.length pc LA L.length lc v w8 hs.1 hs.2 hv0 (by omega); rw [← HAV.out] at h; exact h) ?_
        rintro e w9 ⟨rfl, hk⟩
        have HM9 := hid (HM8.out.same hk)
        have HX9 := hid (hk.blk HX8.out (fun h => h))
        have HB9 := hid (hk.blk HB8.out (fun h => h))
        have HWG9 := hid (hk.ints HWG8.out (fun h => h))
        have HK9 : Hid (Keep0 w w9) := hid (Keep0.step HK8.out hk)
        clear hk HM8 HX8 HB8 HWG8 HK8 qB8 c18 c28 zz8
        have qB9 := HB9.out.k14
        have c19 := HWG9.out.cell (av + 1 + u) (by omega)
        have c29 := HWG9.out.cell av (by omega)
        have zz9 := HWG9.out.lt
        go_wp2_with fail
        refine Calls.mono (show Calls Try.prog 26 #[.slice (some ⟨wg, 0, none⟩) WW.length Wc, .agg #[i64 t, i64 s, i64 g, i64 l, i64 r, i64 k, .slice PA P.length pc, .slice LA L.length lc], i64 v] w9 (Ret (i64 (leftN WW av s)) w9) from ref8_Left t g l r k s PA P.length pc LA L.length lc v av _ Wc WW _ HWG9.out (by omega) (by omega) (by omega) hv0 (by omega) HAV.out (by omega) HALL.out) ?_
        rintro e w10 ⟨rfl, hk⟩
        have HM10 := hid (HM9.out.same hk)
        have HX10 := hid (hk.blk HX9.out (fun h => h))
        have HB10 := hid (hk.blk HB9.out (fun h => h))
        have HWG10 := hid (hk.ints HWG9.out (fun h => h))
        have HK10 : Hid (Keep0 w w10) := hid (Keep0.step HK9.out hk)
        clear hk HM9 HX9 HB9 HWG9 HK9 qB9 c19 c29 zz9
        have qB10 := HB10.out.k14
        have c110 := HWG10.out.cell (av + 1 + u) (by omega)
        have c210 := HWG10.out.cell av (by omega)
        have zz10 := HWG10.out.lt
        go_wp2_with fail
        refine Calls.mono (show Calls Try.prog 27 #[ptr x] w10 (Ret (.agg #[i64 4, i64 0, .bool false, i64 v]) w10) from (by have h := pool_Ans HX10.out; rw [hbad] at h; exact h)) ?_
        rintro e w11 ⟨rfl, hk⟩
        have HM11 := hid (HM10.out.same hk)
        have HX11 := hid (hk.blk HX10.out (fun h => h))
        have HB11 := hid (hk.blk HB10.out (fun h => h))
        have HWG11 := hid (hk.ints HWG10.out (fun h => h))
        have HK11 : Hid (Keep0 w w11) := hid (Keep0.step HK10.out hk)
        clear hk HM10 HX10 HB10 HWG10 HK10 qB10 c110 c210 zz10
        have qB11 := HB11.out.k14
        have c111 := HWG11.out.cell (av + 1 + u) (by omega)
        have c211 := HWG11.out.cell av (by omega)
        have zz11 := HWG11.out.lt
        go_wp2_with fail
        have HWD := hid (mem_Words HM11.out (by rw [hPW]; omega))
        rw [hPW] at HWD
        refine HWD.out.mono ?_
        rintro e w12 ⟨g2, gc2, rfl, hi2, hk, _⟩
        have HI2 := hid hi2
        clear hi2 HWD
        have HM12 := hid (HM11.out.same hk)
        have HX12 := hid (hk.blk HX11.out (fun h => h))
        have HB12 := hid (hk.blk HB11.out (fun h => h))
        have HWG12 := hid (hk.ints HWG11.out (fun h => h))
        have HK12 : Hid (Keep0 w w12) := hid (Keep0.step HK11.out hk)
        clear hk HM11 HX11 HB11 HWG11 HK11 qB11 c111 c211 zz11
        have qB12 := HB12.out.k14
        have c112 := HWG12.out.cell (av + 1 + u) (by omega)
        have c212 := HWG12.out.cell av (by omega)
        have zz12 := HWG12.out.lt
        go_wp2_with fail
        refine (same_ints _ _ WW gc2 Wc _ HI2.out.at_ HWG12.out.at_ (by omega)).mono ?_
        rintro e w13 ⟨rfl, hk⟩
        have HKE : Hid (Keep0 w w13) := hid (Keep0.step HK12.out hk)
        clear hk
        go_wp2_with fail
        go_ret
        exact ⟨rfl, HKE.out⟩
      · have hbad : pt.bad = false := by rw [hbd]; simp [c1, c2]
        have hleft := hleft hbad
        clear hbd hsame
        go_wp2_with fail
        refine Calls.mono (show Calls Try.prog 24 #[.agg #[i64 t, i64 s, i64 g, i64 l, i64 r, i64 k, .slice PA P.length pc, .slice LA L.length lc], i64 v, i64 u] w7 (Ret (i64 ((av + 1 + u : Nat) : Int)) w7) from by have h := ref_Lease t (s : Int) g l r k PA P.length pc LA L.length lc v (u : Int) w7 hs.1 hs.2 hv0 (by omega) (by omega) (by omega); rw [show v * (6 + 2 * (s : Int)) + 2 + (u : Int) = ((av + 1 + u : Nat) : Int) from by have := HAV.out; omega] at h; exact h) ?_
        rintro e w8 ⟨rfl, hk⟩
        have HM8 := hid (HM7.out.same hk)
        have HX8 := hid (hk.blk HX7.out (fun h => h))
        have HB8 := hid (hk.blk HB7.out (fun h => h))
        have HWG8 := hid (hk.ints HWG7.out (fun h => h))
        have HK8 : Hid (Keep0 w w8) := hid (Keep0.step HK7.out hk)
        clear hk HM7 HX7 HB7 HWG7 HK7 qB7 c17 c27 zz7
        have qB8 := HB8.out.k14
        have c18 := HWG8.out.cell (av + 1 + u) (by omega)
        have c28 := HWG8.out.cell av (by omega)
        have zz8 := HWG8.out.lt
        go_wp2_with fail
        refine Calls.mono (show Calls Try.prog 25 #[.agg #[i64 t, i64 s, i64 g, i64 l, i64 r, i64 k, .slice PA P.length pc, .slice LA L.length lc], i64 v] w8 (Ret (i64 av) w8) from by have h := ref_Avail t (s : Int) g l r k PA P.length pc LA L.length lc v w8 hs.1 hs.2 hv0 (by omega); rw [← HAV.out] at h; exact h) ?_
        rintro e w9 ⟨rfl, hk⟩
        have HM9 := hid (HM8.out.same hk)
        have HX9 := hid (hk.blk HX8.out (fun h => h))
        have HB9 := hid (hk.blk HB8.out (fun h => h))
        have HWG9 := hid (hk.ints HWG8.out (fun h => h))
        have HK9 : Hid (Keep0 w w9) := hid (Keep0.step HK8.out hk)
        clear hk HM8 HX8 HB8 HWG8 HK8 qB8 c18 c28 zz8
        have qB9 := HB9.out.k14
        have c19 := HWG9.out.cell (av + 1 + u) (by omega)
        have c29 := HWG9.out.cell av (by omega)
        have zz9 := HWG9.out.lt
        go_wp2_with fail
        refine Calls.mono (show Calls Try.prog 26 #[.slice (some ⟨wg, 0, none⟩) WW.length Wc, .agg #[i64 t, i64 s, i64 g, i64 l, i64 r, i64 k, .slice PA P.length pc, .slice LA L.length lc], i64 v] w9 (Ret (i64 (leftN WW av s)) w9) from ref8_Left t g l r k s PA P.length pc LA L.length lc v av _ Wc WW _ HWG9.out (by omega) (by omega) (by omega) hv0 (by omega) HAV.out (by omega) HALL.out) ?_
        rintro e w10 ⟨rfl, hk⟩
        have HM10 := hid (HM9.out.same hk)
        have HX10 := hid (hk.blk HX9.out (fun h => h))
        have HB10 := hid (hk.blk HB9.out (fun h => h))
        have HWG10 := hid (hk.ints HWG9.out (fun h => h))
        have HK10 : Hid (Keep0 w w10) := hid (Keep0.step HK9.out hk)
        clear hk HM9 HX9 HB9 HWG9 HK9 qB9 c19 c29 zz9
        have qB10 := HB10.out.k14
        have c110 := HWG10.out.cell (av + 1 + u) (by omega)
        have c210 := HWG10.out.cell av (by omega)
        have zz10 := HWG10.out.lt
        go_wp2_with fail
        refine Calls.mono (show Calls Try.prog 27 #[ptr x] w10 (Ret (.agg #[i64 0, i64 0, .bool false, i64 0]) w10) from (by have h := pool_Ans HX10.out; rw [hbad] at h; exact h)) ?_
        rintro e w11 ⟨rfl, hk⟩
        have HM11 := hid (HM10.out.same hk)
        have HX11 := hid (hk.blk HX10.out (fun h => h))
        have HB11 := hid (hk.blk HB10.out (fun h => h))
        have HWG11 := hid (hk.ints HWG10.out (fun h => h))
        have HK11 : Hid (Keep0 w w11) := hid (Keep0.step HK10.out hk)
        clear hk HM10 HX10 HB10 HWG10 HK10 qB10 c110 c210 zz10
        have qB11 := HB11.out.k14
        have c111 := HWG11.out.cell (av + 1 + u) (by omega)
        have c211 := HWG11.out.cell av (by omega)
        have zz11 := HWG11.out.lt
        go_wp2_with fail
        refine Calls.mono (show Calls Try.prog 28 #[ptr m, .agg #[i64 t, i64 s, i64 g, i64 l, i64 r, i64 k, .slice PA P.length pc, .slice LA L.length lc], i64 v] w11 (Ret (i64 (leftN WW av s - n)) w11) from (by have h := pool_Left t g l r k s PA P.length pc LA L.length lc v av HM11.out (by omega) (by omega) (by omega) hv0 (by omega) HAV.out (by omega) HALL2.out; rw [hleft] at h; exact h)) ?_
        rintro e w12 ⟨rfl, hk⟩
        have HKE : Hid (Keep0 w w12) := hid (Keep0.step HK11.out hk)
        have hlb := leftN_bound WW av 4398046511104 HALL.out s
        clear hk
        generalize leftN WW av s = LW at *
        have yl : IntKind.i64.wrap (LW - n) = LW - n := IntWalk.i64_in _ (by omega)
        go_wp2_with fail
        go_ret
        exact ⟨rfl, HKE.out⟩
    · have hbad : pt.bad = false := by rw [hbd]; simp [c1]
      have hleft := hleft hbad
      clear hbd hsame
      go_wp2_with fail
      refine Calls.mono (show Calls Try.prog 24 #[.agg #[i64 t, i64 s, i64 g, i64 l, i64 r, i64 k, .slice PA P.length pc, .slice LA L.length lc], i64 v, i64 u] w7 (Ret (i64 ((av + 1 + u : Nat) : Int)) w7) from by have h := ref_Lease t (s : Int) g l r k PA P.length pc LA L.length lc v (u : Int) w7 hs.1 hs.2 hv0 (by omega) (by omega) (by omega); rw [show v * (6 + 2 * (s : Int)) + 2 + (u : Int) = ((av + 1 + u : Nat) : Int) from by have := HAV.out; omega] at h; exact h) ?_
      rintro e w8 ⟨rfl, hk⟩
      have HM8 := hid (HM7.out.same hk)
      have HX8 := hid (hk.blk HX7.out (fun h => h))
      have HB8 := hid (hk.blk HB7.out (fun h => h))
      have HWG8 := hid (hk.ints HWG7.out (fun h => h))
      have HK8 : Hid (Keep0 w w8) := hid (Keep0.step HK7.out hk)
      clear hk HM7 HX7 HB7 HWG7 HK7 qB7 c17 c27 zz7
      have qB8 := HB8.out.k14
      have c18 := HWG8.out.cell (av + 1 + u) (by omega)
      have c28 := HWG8.out.cell av (by omega)
      have zz8 := HWG8.out.lt
      go_wp2_with fail
      refine Calls.mono (show Calls Try.prog 26 #[.slice (some ⟨wg, 0, none⟩) WW.length Wc, .agg #[i64 t, i64 s, i64 g, i64 l, i64 r, i64 k, .slice PA P.length pc, .slice LA L.length lc], i64 v] w8 (Ret (i64 (leftN WW av s)) w8) from ref8_Left t g l r k s PA P.length pc LA L.length lc v av _ Wc WW _ HWG8.out (by omega) (by omega) (by omega) hv0 (by omega) HAV.out (by omega) HALL.out) ?_
      rintro e w9 ⟨rfl, hk⟩
      have HM9 := hid (HM8.out.same hk)
      have HX9 := hid (hk.blk HX8.out (fun h => h))
      have HB9 := hid (hk.blk HB8.out (fun h => h))
      have HWG9 := hid (hk.ints HWG8.out (fun h => h))
      have HK9 : Hid (Keep0 w w9) := hid (Keep0.step HK8.out hk)
      clear hk HM8 HX8 HB8 HWG8 HK8 qB8 c18 c28 zz8
      have qB9 := HB9.out.k14
      have c19 := HWG9.out.cell (av + 1 + u) (by omega)
      have c29 := HWG9.out.cell av (by omega)
      have zz9 := HWG9.out.lt
      go_wp2_with fail
      refine Calls.mono (show Calls Try.prog 27 #[ptr x] w9 (Ret (.agg #[i64 0, i64 0, .bool false, i64 0]) w9) from (by have h := pool_Ans HX9.out; rw [hbad] at h; exact h)) ?_
      rintro e w10 ⟨rfl, hk⟩
      have HM10 := hid (HM9.out.same hk)
      have HX10 := hid (hk.blk HX9.out (fun h => h))
      have HB10 := hid (hk.blk HB9.out (fun h => h))
      have HWG10 := hid (hk.ints HWG9.out (fun h => h))
      have HK10 : Hid (Keep0 w w10) := hid (Keep0.step HK9.out hk)
      clear hk HM9 HX9 HB9 HWG9 HK9 qB9 c19 c29 zz9
      have qB10 := HB10.out.k14
      have c110 := HWG10.out.cell (av + 1 + u) (by omega)
      have c210 := HWG10.out.cell av (by omega)
      have zz10 := HWG10.out.lt
      go_wp2_with fail
      refine Calls.mono (show Calls Try.prog 28 #[ptr m, .agg #[i64 t, i64 s, i64 g, i64 l, i64 r, i64 k, .slice PA P.length pc, .slice LA L.length lc], i64 v] w10 (Ret (i64 (leftN WW av s - n)) w10) from (by have h := pool_Left t g l r k s PA P.length pc LA L.length lc v av HM10.out (by omega) (by omega) (by omega) hv0 (by omega) HAV.out (by omega) HALL2.out; rw [hleft] at h; exact h)) ?_
      rintro e w11 ⟨rfl, hk⟩
      have HKE : Hid (Keep0 w w11) := hid (Keep0.step HK10.out hk)
      have hlb := leftN_bound WW av 4398046511104 HALL.out s
      clear hk
      generalize leftN WW av s = LW at *
      have yl : IntKind.i64.wrap (LW - n) = LW - n := IntWalk.i64_in _ (by omega)
      go_wp2_with fail
      go_ret
      exact ⟨rfl, HKE.out⟩
end Go.Proofs.Ytdjfeapncpcmgaa
