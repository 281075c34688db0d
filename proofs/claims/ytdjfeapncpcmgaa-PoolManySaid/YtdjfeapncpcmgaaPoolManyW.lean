/- PoolMany: machines of one pool that step by turns. -/
import Derived.Test.YtdjfeapncpcmgaaPoolMC
import Derived.Test.YtdjfeapncpcmgaaRowMany
namespace Go.Proofs.Ytdjfeapncpcmgaa
open Go.RowKit
set_option linter.unusedVariables false
set_option linter.unusedSimpArgs false
set_option maxRecDepth 100000

theorem info_mptr : (Try.prog.info? 51).map (fun i => (i.zero, i.size, i.bytes)) = some (some (.pointer none), 1, 8) := by kernel_rfl
theorem info_bool : (Try.prog.info? 4).map (fun i => (i.zero, i.size, i.bytes)) = some (some (.bool false), 1, 1) := by kernel_rfl
theorem made_bools (n : Nat) : madeCells (Value.bool false).cells n = (List.replicate n (Value.bool false)).toArray := by
  apply Array.ext
  · simp [madeCells]
  · intro i h1 h2
    have e : i % 1 = 0 := Nat.mod_one i
    simp [madeCells, Value.cells, e]
theorem MRow.grown {w w1 w' : World} {av : Nat} {nd lim : Int} {xs : List Nat} {ms : List Mc} {base : Nat} {v : Value} {n : Nat} {zs : List Value} (h : MRow w av nd lim xs ms) (hk : Keep0 w w1) (ho : w1.ownsRow base 51 1 v n zs) (hg : w1.grownBy w' v.ownBlock) : MRow w' av nd lim xs ms :=
  ⟨h.len, fun i h1 h2 => grown_blk hg (hk.blk (h.blk i h1 h2) (fun h => h)) (ownBlock_ne ho (hk.blk (h.blk i h1 h2) (fun h => h)) (by decide)), h.inj⟩
/-- the machines at their beginnings -/
def mk0 (s : Nat) (ll : List Int) : Nat → List Mc
  | 0 => []
  | j + 1 => mk0 s ll j ++ [⟨rd ll j % 50 + 1, j % s, 0, 0, 0, 0, false⟩]
theorem snoc_all {xs : List Nat} {x N : Nat} (h : ∀ q (hq : q < xs.length), N ≤ xs[q]) (hx : N ≤ x) : ∀ q (hq : q < (xs ++ [x]).length), N ≤ (xs ++ [x])[q] := by
  intro q hq
  by_cases e : q < xs.length
  · rw [List.getElem_append_left e]; exact h q e
  · rw [List.getElem_append_right (by omega)]; simpa using hx
theorem mk0_length (s : Nat) (ll : List Int) (j : Nat) : (mk0 s ll j).length = j := by
  induction j with
  | zero => rfl
  | succ j ih => simp [mk0, ih]

theorem mk0_get (s : Nat) (ll : List Int) (j i : Nat) (h : i < (mk0 s ll j).length) : (mk0 s ll j)[i] = ⟨rd ll i % 50 + 1, i % s, 0, 0, 0, 0, false⟩ := by
  induction j with
  | zero => simp [mk0] at h
  | succ j ih =>
    have hl := mk0_length s ll j
    simp only [mk0]
    by_cases e : i < j
    · rw [List.getElem_append_left (by omega)]
      exact ih (by omega)
    · have h' : i < j + 1 := by rw [mk0_length] at h; exact h
      have e2 : i = j := by omega
      rw [List.getElem_append_right (by omega)]
      simp [hl, e2]
theorem isum_zero (l : List Int) (h : ∀ x ∈ l, x = 0) : isum l = 0 := by
  induction l with
  | nil => rfl
  | cons y l ih =>
    have h1 := h y (by simp)
    have h2 := ih (fun x hx => h x (by simp [hx]))
    simp [isum] at h2 ⊢
    omega
theorem isum_snoc (l : List Int) (x : Int) : isum (l ++ [x]) = isum l + x := by
  induction l with
  | nil => simp [isum]
  | cons y l ih => simp [isum] at ih ⊢; omega
theorem isum_take (ms : List Mc) (f : Mc → Int) (j : Nat) (h : j < ms.length) : isum ((ms.take (j + 1)).map f) = isum ((ms.take j).map f) + f ms[j] := by
  rw [List.take_succ_eq_append_getElem h, List.map_append, List.map_singleton, isum_snoc]
theorem isum_bd (ms : List Mc) (f : Mc → Int) (Y : Int) (h : ∀ i (hi : i < ms.length), -Y ≤ f ms[i] ∧ f ms[i] ≤ Y) (j : Nat) (hj : j ≤ ms.length) : -(Y * j) ≤ isum ((ms.take j).map f) ∧ isum ((ms.take j).map f) ≤ Y * j := by
  induction j with
  | zero => simp [isum]
  | succ j ih =>
    have h1 := ih (by omega)
    have h2 := h j (by omega)
    rw [isum_take ms f j (by omega), show Y * ((j + 1 : Nat) : Int) = Y * j + Y from by rw [show ((j + 1 : Nat) : Int) = (j : Int) + 1 from by omega, Int.mul_add, Int.mul_one]]
    omega
theorem mi_start {av s : Nat} {lim X : Int} {W : List Int} {ll : List Int} {j : Nat} (hs : 0 < s) (hlen : av + 1 + s ≤ W.length) (hlim : 0 ≤ lim ∧ lim ≤ 1048576) (hll : ∀ i, i < j → 0 ≤ rd ll i) (hle : ∀ u, u < s → 0 ≤ rd W (av + 1 + u) ∧ rd W (av + 1 + u) ≤ lim) (hav : 0 ≤ rd W av ∧ rd W av ≤ X) :
    MI av s lim X (leftN W av s) W [] (mk0 s ll j) := by
  refine ⟨hlen, ?_, hle, hav, ?_, ?_⟩
  · intro i hi
    have hij : i < j := by rw [mk0_length] at hi; exact hi
    rw [mk0_get]
    have hm := Nat.mod_lt i hs
    have h0 := Int.emod_nonneg (rd ll i) (show (50 : Int) ≠ 0 by omega)
    have h1 := Int.emod_lt_of_pos (rd ll i) (show (0 : Int) < 50 by omega)
    exact ⟨hm, PInv.start (by omega) (by show av + 1 + i % s < W.length; omega) (by show av ≠ av + 1 + i % s; omega) (by show 1 ≤ rd ll i % 50 + 1 ∧ rd ll i % 50 + 1 ≤ 1048576; omega) hlim (hle _ hm) hav⟩
  · rw [isum_zero]
    · omega
    · intro x hx
      rw [List.mem_map] at hx
      obtain ⟨c, hc, rfl⟩ := hx
      obtain ⟨i, hi, rfl⟩ := List.getElem_of_mem hc
      rw [mk0_get]
      simp [Mc.own, Mc.ps, pOwn]
  · intro i hi hb
    rw [mk0_get] at hb
    cases hb
theorem prog_start {av P : Nat} {W : List Int} {L : List Acc} {ms : List Mc} : Prog av P 0 W L ms := by
  intro j hj hP
  right
  have := psi_le (av := av) (W := W) (L := L) j hj
  simp [tc]; omega
theorem m_Ans0 {w : World} {x av le nx : Nat} {nd n lim : Int} {t : PS} (hx : Blk w x 100 (pcs av le nd n lim nx t)) (hb : t.bad = false) : Calls Try.prog 27 #[ptr x] w (Ret (.agg #[i64 0, i64 0, .bool false, i64 0]) w) := by
  have h := pool_Ans hx
  rw [hb] at h
  exact h
theorem m_Ans1 {w : World} {x av le nx : Nat} {nd n lim : Int} {t : PS} (hx : Blk w x 100 (pcs av le nd n lim nx t)) (hb : t.bad = true) : Calls Try.prog 27 #[ptr x] w (Ret (.agg #[i64 4, i64 0, .bool false, i64 nd]) w) := by
  have h := pool_Ans hx
  rw [hb] at h
  exact h
def ovr (ms : List Mc) : List Value := ms.map (fun c => .bool (decide (c.next = 7)))
theorem ovr_start (s : Nat) (ll : List Int) (j : Nat) : List.replicate j (Value.bool false) = ovr (mk0 s ll j) := by
  apply List.ext_getElem
  · simp [ovr, mk0_length]
  · intro i h1 h2
    simp only [ovr, List.getElem_map, List.getElem_replicate]
    rw [mk0_get]
    rfl
theorem ovr_get (ms : List Mc) (k : Nat) (h : k < ms.length) : (ovr ms)[k]? = some (.bool (decide (ms[k].next = 7))) := by simp [ovr, h]
theorem ovr_set (ms : List Mc) (k : Nat) (t : PS) (h : k < ms.length) : ovr (ms.set k (ms[k].of t)) = (ovr ms).set k (.bool (decide (t.next = 7))) := by
  unfold ovr
  rw [List.map_set]
  rfl

set_option maxHeartbeats 20000000 in
theorem poolMany_walk {w : World} {v0 v1 v2 : Value} (hc : PoolIn w v0) (h1 : ∃ l, KsIn .u16 w v1 l ∧ ∀ i, i < l.length → 0 ≤ rd l i ∧ rd l i ≤ 65535) (h2 : ∃ l, KsIn .u8 w v2 l ∧ ∀ i, i < l.length → 0 ≤ rd l i ∧ rd l i ≤ 255) : Calls Try.prog 5 #[v0, v1, v2] w (Ret (.bool true) w) := by
  obtain ⟨ll, ⟨LLA, llc, rfl, hll63, hll⟩, hllb⟩ := h1
  obtain ⟨pk, ⟨PKA, pkc, rfl, hpk63, hpk⟩, hpkb⟩ := h2
  have HLS := hid hll
  have HLSB := hid hllb
  have HPKA := hid hpk
  have HPKB := hid hpkb
  clear hll hllb hpk hpkb
  obtain ⟨t, s, g, l, r, k, P, L, PA, pc, LA, lc, nd, nn, st, avl, Q, QA, qc, K, KA, kc, rfl, hP, hL, hp1, hl1, hnd, hnn, hst, havl, hQ, hq1, hq2, hK, hk1⟩ := hc
  have HB : Hid (Blk (w.alloc (.cells #[i64 t, i64 s, i64 g, i64 l, i64 r, i64 k, .slice PA P.length pc, .slice LA L.length lc, .int .u8 nd, .int .u32 nn, .int .u8 st, .int .u32 avl, .slice QA Q.length qc, .slice KA K.length kc] 45)) w.heap.size 45 [i64 t, i64 s, i64 g, i64 l, i64 r, i64 k, .slice PA P.length pc, .slice LA L.length lc, .int .u8 nd, .int .u32 nn, .int .u8 st, .int .u32 avl, .slice QA Q.length qc, .slice KA K.length kc]) := hid (Blk.made rfl rfl)
  have HK0 : Hid (Keep0 w (w.alloc (.cells #[i64 t, i64 s, i64 g, i64 l, i64 r, i64 k, .slice PA P.length pc, .slice LA L.length lc, .int .u8 nd, .int .u32 nn, .int .u8 st, .int .u32 avl, .slice QA Q.length qc, .slice KA K.length kc] 45))) := hid ((Keep.refl _ _).alloc _)
  have HGD := hid (fun (w' : World) (hk : Keep0 w w') => law8_Good t s g l r k PA P pc LA L lc nd nn st avl QA Q qc KA K kc w' (hP.keep hk) (hL.keep hk) hp1 hl1 hq1 hk1)
  have HWO := hid (fun (w' : World) (hk : Keep0 w w') hR hq => law8_Words t s g l r k PA P pc LA L lc nd nn st avl QA Q qc KA K kc w' (hP.keep hk) (hL.keep hk) (hQ.keep hk) hR hnd hnn hst havl hq hq2)
  have HPK := hid (fun (w' : World) (hk : Keep0 w w') hR hk40 => law8_Pokes t s g l r k PA P pc LA L lc nd nn st avl QA Q qc KA K kc w' (hK.keep hk) hR hnd hnn hst hk40)
  clear hP hL hQ hK hq2
  go_enter Try.func5, Try.ntmps5
  go_wp2_with fail
  have qHB := HB.out.k14
  refine (law8_head _).mono ?_
  rintro e w1 ⟨rfl, hk⟩
  have HK1 : Hid (Keep0 w w1) := hid (Keep0.step HK0.out hk)
  have T := hk.blk HB.out (fun h => h)
  clear hk HB HK0 qHB
  have HB := hid T
  clear T
  have qHB := HB.out.k14
  go_wp2_with fail
  refine (HGD.out _ HK1.out).mono ?_
  rintro e w2 ⟨rfl, hk⟩
  have HK2 : Hid (Keep0 w w2) := hid (Keep0.step HK1.out hk)
  have T := hk.blk HB.out (fun h => h)
  clear hk HB HK1 qHB HGD hp1 hl1 hq1 hk1
  have HB := hid T
  clear T
  have qHB := HB.out.k14
  cases hgood : good8B t s g l r k P L Q.length K.length
  · go_wp2
    go_ret
    exact ⟨rfl, HK2.out⟩
  · by_cases hl6 : 6 < ll.length
    · go_wp2
      go_ret
      exact ⟨rfl, HK2.out⟩
    by_cases hpk2 : 200 < pk.length
    · go_wp2
      go_ret
      exact ⟨rfl, HK2.out⟩
    by_cases hll0 : ll.length = 0
    · go_wp2
      go_ret
      exact ⟨rfl, HK2.out⟩
    have gl6 : (6 < (ll.length : Int)) = False := by simp; omega
    have gp2 : (200 < (pk.length : Int)) = False := by simp; omega
    have hl1 : 1 ≤ ll.length ∧ ll.length ≤ 6 := by omega
    have hl0b : ((ll.length : Int) == 0) = false := by simpa using hll0
    simp only [good8B, Bool.and_eq_true, decide_eq_true_eq] at hgood
    obtain ⟨⟨hgood, hk40⟩, hq20⟩ := hgood
    have R := Right.of hgood
    clear hgood
    obtain ⟨s, rfl⟩ := Int.eq_ofNat_of_zero_le (show 0 ≤ s by have := R.sb; omega)
    have hs := R.sb
    have hp := R.p
    have hl := R.l
    have hkk := R.k
    have hlen := R.len
    have HOF := hid (fun (w' : World) => law8_Of t (s : Int) g l r k PA P pc LA L lc nd nn st avl QA Q qc KA K kc w' ⟨hp.1, by omega⟩ hs hnd hnn hst)
    have HWO2 := hid (fun w' hk => HWO.out w' hk R hq20)
    have HPK2 := hid (fun w' hk => HPK.out w' hk R hk40)
    clear HWO HPK
    have hv0 := Int.emod_nonneg nd (show (P.length : Int) ≠ 0 by omega)
    have hv1 := Int.emod_lt_of_pos nd (show (0 : Int) < P.length by omega)
    have hu0 := Int.emod_nonneg st (show (s : Int) ≠ 0 by omega)
    have hu1 := Int.emod_lt_of_pos st (show (0 : Int) < s by omega)
    have hn0 := Int.emod_nonneg nn (show (1048576 : Int) ≠ 0 by omega)
    have hn1 := Int.emod_lt_of_pos nn (show (0 : Int) < 1048576 by omega)
    generalize nd % (P.length : Int) = v at *
    generalize st % (s : Int) = u at *
    generalize hne : nn % 1048576 + 1 = n at *
    have hn : 1 ≤ n ∧ n ≤ 1048576 := by omega
    clear hne hn0 hn1
    have PW := poolWords R (v := v) (avl := avl) (Q := Q) ⟨hv0, hv1⟩ havl
    have hm1 := mul_bd 12 22 hv0 (by omega) (show 0 ≤ 6 + 2 * (s : Int) by omega) (by omega)
    have hm4 := mul_bd 12 22 (show (0 : Int) ≤ P.length by omega) (by omega) (show 0 ≤ 6 + 2 * (s : Int) by omega) (by omega)
    obtain ⟨av, hav⟩ := Int.eq_ofNat_of_zero_le (show 0 ≤ v * (6 + 2 * (s : Int)) + 1 by omega)
    rw [show (v * (6 + 2 * (s : Int)) + 1).toNat = av from by omega] at PW
    have hav0 : av ≤ 300 := by omega
    have HAV := hid hav.symm
    clear hav
    obtain ⟨u, rfl⟩ := Int.eq_ofNat_of_zero_le hu0
    have hus : u < s := by omega
    have hfit := PW.fit
    rw [Int.toNat_natCast] at hfit
    have hWl := PW.len
    generalize hWW : words8 (s : Int) k l L P.length v avl Q = WW at *
    clear hWW
    have HN : Hid ((P.length : Int) * (6 + 2 * (s : Int)) + 2 * k = (WW.length : Int)) := hid (by have := hkk; omega)
    have hWm : WW.length ≤ 10000 := by omega
    rw [← hWl] at hfit
    clear hWl
    have hPI : PInv av (av + 1 + u) n l 4294967296 ⟨WW, [], 0, 0, 0, 0, false⟩ := PInv.start (by omega) (by omega) (by omega) hn hl (PW.lease u (by rw [Int.toNat_natCast]; exact hus)) (by rw [PW.isav]; omega)
    have HPI := hid hPI
    have HPW := hid PW
    have HR := hid R
    clear hPI PW R hm4 hlen
    go_wp2_with fail
    refine (HOF.out _).mono ?_
    rintro e w3 ⟨rfl, hk⟩
    have HK3 : Hid (Keep0 w w3) := hid (Keep0.step HK2.out hk)
    have T := hk.blk HB.out (fun h => h)
    clear hk HB HK2 qHB HOF
    have HB := hid T
    clear T
    have qHB := HB.out.k14
    go_wp2_with fail
    refine (HWO2.out _ HK3.out).mono ?_
    rintro e w4 ⟨WA, Wc, rfl, how, hk⟩
    have HK4 : Hid (Keep0 w w4) := hid (Keep0.step HK3.out hk)
    have T := hk.blk HB.out (fun h => h)
    clear hk HB HK3 qHB HWO2
    have HB := hid T
    clear T
    have qHB := HB.out.k14
    obtain ⟨wg, rfl, hwg, hwge⟩ := ints_own how (by omega) rfl
    have HWG := hid hwg
    have HOW := hid how
    clear hwg how
    go_wp2_with fail
    refine (law8_Laid w.heap.size _ _ _ WW HWG.out.at_ hWm HK4.out.size).mono ?_
    rintro e w5 ⟨m, a, lv5, rfl, hm, hk, hzm, hza⟩
    have HM5 := hid hm
    have HK5 : Hid (Keep0 w w5) := hid (Keep0.step HK4.out hk)
    have hzm' := Nat.le_trans HK4.out.size hzm
    have hza' := Nat.le_trans HK4.out.size hza
    have HWG5 := hid (hk.ints HWG.out (fun h => h))
    have HOW5 := hid (ownsRow_keep HOW.out hk (fun _ _ h => h))
    have hwgm : wg ≠ a := by have := HWG.out.lt; omega
    have hwgm2 : wg ≠ m := by have := HWG.out.lt; omega
    have T := hk.blk HB.out (fun h => h)
    clear hk hm hzm hza HB HK4 qHB HWG HOW
    have HB := hid T
    clear T
    have qHB := HB.out.k14
    have HLL := hid (show ∀ (w' : World) lv (W : List Int) L, MemAt w.heap.size w' m a lv W L → ∀ k, MF m a lv k → w.heap.size ≤ k from by
      rintro w' lv W L h k (rfl | rfl | h2)
      · exact hzm'
      · exact hza'
      · exact (h.log.lt k h2).1)
    go_wp2_with fail
    have hwf := HPW.out.all
    have HALL0 := hid hwf
    refine Calls.mono (show Calls Try.prog 28 #[ptr m, .agg #[i64 t, i64 s, i64 g, i64 l, i64 r, i64 k, .slice PA P.length pc, .slice LA L.length lc], i64 v] w5 (Ret (i64 (leftN WW av s)) w5) from pool_Left t g l r k s PA P.length pc LA L.length lc v av HM5.out (by omega) (by omega) (by omega) hv0 (by omega) HAV.out (by omega) HALL0.out) ?_
    rintro e w6 ⟨rfl, hk⟩
    have HM6 := hid (HM5.out.same hk)
    have HK6 : Hid (Keep0 w w6) := hid (Keep0.step HK5.out hk)
    have HB6 := hid (hk.blk HB.out (fun h => h))
    have h56 := hk.size
    clear hk hwf HM5 HB HK5 qHB HWG5 HOW5
    obtain ⟨i0, hti, hz0, hz1, hz2⟩ := info_parts info_mptr
    have HI := hid hti
    clear hti
    have qb6 := HB6.out.k14
    go_wp2_with fail
    clear qb6
    go_loopw [14, 15] (fun v14 v15 wr => ∃ j : Nat, j ≤ ll.length ∧ v15 = .int .i64 j ∧ ∃ A1 c1 xs, v14 = .slice A1 j c1 ∧ wr.ownsRow w6.heap.size 51 1 (.slice A1 j c1) j (xs.map ptr) ∧ MRow wr av v l xs (mk0 s ll j) ∧ (∀ q (hq : q < xs.length), w6.heap.size ≤ xs[q]) ∧ Blk wr w.heap.size 45 [i64 t, i64 s, i64 g, i64 l, i64 r, i64 k, .slice PA P.length pc, .slice LA L.length lc, .int .u8 nd, .int .u32 nn, .int .u8 st, .int .u32 avl, .slice QA Q.length qc, .slice KA K.length kc] ∧ Keep0 w6 wr) (fun _ v _ => ll.length - (intOf v).toNat)
    case atStart => exact ⟨0, Nat.zero_le _, rfl, none, 0, [], rfl, World.ownsRow_nil _ _ _ _, ⟨rfl, fun i h => by simp [mk0] at h, fun i j h => by simp at h⟩, fun q hq => by simp at hq, HB6.out, Keep.refl _ _⟩
    case round =>
      obtain ⟨j, hj, rfl, A1, c1, xs, rfl, ho, hmr, hxb, hb, hkr⟩ := hrel
      have HO := hid ho
      have HMR := hid hmr
      have HXB := hid hxb
      have HBB := hid hb
      have HKR := hid hkr
      have qb := hb.k14
      clear ho hmr hxb hb hkr
      have HKO : Hid (Keep0 wr wr) := hid (Keep.refl _ _)
      have HCB := HBB
      have HKC := HKR
      by_cases hjl : j < ll.length
      · obtain ⟨lb, lo, rfl, hlc⟩ := (HLS.out.keep (HK6.out.trans HKR.out (fun _ _ h => h))).cell (by omega)
        have hcl := hlc j hjl
        have hlz := World.block_lt_of_cell? _ _ hcl
        simp only at hlz
        have hlzs := lts hlz
        have hbd := HLSB.out j hjl
        have y1 : IntKind.i64.wrap (rd ll j) = rd ll j := IntWalk.i64_in _ (by omega)
        have y2 : (rd ll j).tmod 50 = rd ll j % 50 := Int.tmod_eq_emod_of_nonneg hbd.1
        have hm50 := Int.emod_nonneg (rd ll j) (show (50 : Int) ≠ 0 by omega)
        have hm51 := Int.emod_lt_of_pos (rd ll j) (show (0 : Int) < 50 by omega)
        have y3 : IntKind.i64.wrap (rd ll j % 50 + 1) = rd ll j % 50 + 1 := IntWalk.i64_in _ (by omega)
        have hjs : j % s < s := Nat.mod_lt _ (by omega)
        have hjm : ((j % s : Nat) : Int) = (j : Int) % (s : Int) := by simp
        have hjn0 : 0 ≤ (j : Int) % (s : Int) := by rw [← hjm]; omega
        have hjn1 : (j : Int) % (s : Int) ≤ 1000 := by rw [← hjm]; omega
        have y4 : ((j : Int)).tmod (s : Int) = (j : Int) % (s : Int) := Int.tmod_eq_emod_of_nonneg (by omega)
        have hs0 : s ≠ 0 := by omega
        clear hlc
        go_wp2_with fail
        go_region_law (first
          | (refine step_append_own ?a1 (.tmp 65) (.tmp 82) 64 ?a2 (w6.heap.size) 51 i0 ?z 1 8 ?a3 ?a4 ?a5 ?a6 ?a7 ?a8 ?a9 (.slice A1 j c1) (j) (xs.map ptr) ?a10 ?hown (⟨w3.heap.size, 0, none⟩) (1) (1) ([ptr x]) ?a11 ?a12 ?hnews ?hone ?h63 ?hby ?hbase ?_; (case a1 => rfl); (case a2 => rfl); (case a3 => exact Try.underlying64); (case a4 => exact HI.out); (case a5 => exact hz0); (case a6 => exact hz1); (case a7 => exact hz2); (case a8 => rfl); (case a9 => decide); (case a10 => rfl); (case a11 => rfl); (case a12 => rfl); (case hown => exact ownsRow_keep (S := fun _ => False) HO.out (by repeat (first | exact Keep.refl _ _ | exact HKO.out | apply Keep.drew | apply Keep.alloc)) (fun _ _ h => h)); (case h63 => unfold maxLen; omega); (case hby => omega); (case hnews => exact news_at (by repeat (first | exact Blk.made (by simp) rfl | apply Blk.drew))); (case hone => simp [Value.oneCell']); (case hbase => have := HKC.out.size; simp; omega); intro A9 c9 w9 hown9 hg9 hsl9; have HB9 := hid (grown_blk hg9 (by repeat (first | exact HCB.out | apply Blk.drew | apply Blk.alloc)) (ownBlock_ne HO.out HBB.out (by decide))); have HO9 := hid hown9; have HOW3 := hid (show (w3.alloc (.cells #[ptr x] 51)).ownsRow w6.heap.size 51 1 (.slice A1 j c1) j (xs.map ptr) from ownsRow_keep (S := fun _ => False) HO.out (by repeat (first | exact Keep.refl _ _ | exact HKO.out | apply Keep.drew | apply Keep.alloc)) (fun _ _ h => h)); have HMR9 := hid ((MRow.snoc HMR.out (w' := w3) HKO.out HNB.out HNX.out).grown ((Keep.refl _ _).alloc _) HOW3.out hg9); have HK9 : Hid (Keep0 w6 w9) := hid (Keep.grown (by repeat (first | exact HKC.out | apply Keep.drew | apply Keep.alloc)) hg9 (fun k hk e => by have := (HO.out.lt k e).1; omega)); clear hown9 hg9 hsl9 HOW3)
          | (go_simp; go_at_call 22; refine (pool_New t (s : Int) g l r k PA P.length pc LA L.length lc v (rd ll j % 50 + 1) ((j : Int) % (s : Int)) _ hs.1 hs.2 hv0 (by omega) hjn0 (by omega)).mono ?_; rintro e w3 ⟨x, rfl, hb, hk, hx⟩; rw [show v * (6 + 2 * (s : Int)) + 1 = (av : Int) from HAV.out.symm, show v * (6 + 2 * (s : Int)) + 2 + ((j : Int) % (s : Int)) = ((av + 1 + j % s : Nat) : Int) from by have := HAV.out; rw [← hjm]; omega] at hb; have T := hid (hk.blk (by repeat (first | exact HBB.out | apply Blk.drew | apply Blk.alloc)) (fun h => h)); have HKO2 : Hid (Keep0 wr w3) := hid (Keep0.step (by repeat (first | exact Keep.refl _ _ | exact HKO.out | apply Keep.drew | apply Keep.alloc)) hk); have HKC2 := hid (Keep0.step HKR.out HKO2.out); have HNB := hid hb; have HNX := hid (show wr.heap.size ≤ x from by first | exact hx | (refine Nat.le_trans ?_ hx; simp)); clear HCB HKO HKC hk hb hx; have HCB := T; have HKO := HKO2; have HKC := HKC2; clear T HKO2 HKC2))
        all_goals
          have HO2 := hid (show w9.ownsRow w6.heap.size 51 1 (.slice A9 (j + 1) c9) (j + 1) ((xs ++ [x]).map ptr) from by have h := HO9.out; rw [List.map_append]; exact h)
          go_wp2_with fail
          go_roundw
          case rel => exact ⟨j + 1, by omega, by go_num, A9, c9, xs ++ [x], rfl, HO2.out, HMR9.out, snoc_all HXB.out (Nat.le_trans HKR.out.size HNX.out), HB9.out, HK9.out⟩
          case measure => simp [intOf]; omega
      · obtain rfl : j = ll.length := by omega
        obtain ⟨ib0, hib, hb0, hb1, hb2⟩ := info_parts info_bool
        have hmk := fun w => run_make (P := Try.prog) w 66 4 ib0 (.bool false) Try.underlying66 hib hb0 .i64 .i64 (ll.length : Int) (ll.length : Int) (by omega) (by omega) (by rw [hb2]; omega) (by omega)
        simp only [hb1, Nat.mul_one, made_bools, Int.toNat_natCast] at hmk
        clear hib hb0 hb1 hb2 HCB HKO HKC
        have hsp : 0 < s := by omega
        have hPW := HPW.out
        have hm0 := mi_start (av := av) (s := s) (lim := l) (X := 4294967296) (W := WW) (ll := ll) (j := ll.length) hsp (by omega) hl (fun i hi => (HLSB.out i hi).1) (fun u hu => hPW.lease u (by omega)) (by rw [hPW.isav]; omega)
        have HMI0 := hid hm0
        have HMK := hid hmk
        have hA1 : A1 ≠ none := fun e => by
          have h := HO.out
          rcases h.2 with ⟨e', h0⟩ | ⟨g', cap, cur, e', _⟩
          · omega
          · cases e'; cases e
        obtain ⟨rb, rfl, hrow, hrb6, hrbz0⟩ : ∃ rb, A1 = some ⟨rb, 0, none⟩ ∧ (∀ q (hq : q < xs.length), wr.cell? ⟨rb, q, none⟩ = some (ptr xs[q])) ∧ w6.heap.size ≤ rb ∧ rb < wr.heap.size := by
          have h := HO.out
          rcases h.2 with ⟨e', h0⟩ | ⟨g', cap, cur, e', hbg, hgg, _⟩
          · omega
          · cases e'
            refine ⟨g', rfl, fun q hq => ?_, hbg, (Array.getElem?_eq_some_iff.1 hgg).1⟩
            have h2 := h.cells (g := g') rfl q (ptr xs[q]) (by simp [hq])
            rw [addr_add] at h2
            exact h2
        have hxl : xs.length = ll.length := by have := HMR.out.len; rw [mk0_length] at this; exact this
        have hrbt : ∀ {T : TypeId} {cs : List Value} {b : Nat}, Blk wr b T cs → T ≠ 51 → b ≠ rb := fun hb ht e => ownBlock_ne HO.out hb ht (by rw [e]; rfl)
        have hrbx : ∀ q (hq : q < xs.length), xs[q] ≠ rb := fun q hq => hrbt (HMR.out.blk q (by rw [mk0_length]; omega) hq) (by decide)
        have HM7 := hid (HM6.out.same HKR.out)
        have hrbm : m ≠ rb := hrbt HM7.out.mem (by decide)
        have hrba : a ≠ rb := hrbt HM7.out.words (by decide)
        have hrbB : w.heap.size ≠ rb := hrbt HBB.out (by decide)
        have hrbl : lv5.ownBlock ≠ some rb := fun e => own_own_ne HO.out HM7.out.log (by decide) rb rfl e
        have hbx : ∀ q (hq : q < xs.length), xs[q] ≠ w.heap.size := fun q hq e => (HMR.out.blk q (by rw [mk0_length]; omega) hq).ne HBB.out (by decide) e
        have hbm : m ≠ w.heap.size := HM7.out.mem.ne HBB.out (by decide)
        have hba : a ≠ w.heap.size := HM7.out.words.ne HBB.out (by decide)
        have hbl : lv5.ownBlock ≠ some w.heap.size := fun e => ownBlock_ne HM7.out.log HBB.out (by decide) e.symm
        have hbz := HBB.out.lt
        have hx6 : ∀ q (hq : q < xs.length), xs[q] < wr.heap.size := fun q hq => (HMR.out.blk q (by rw [mk0_length]; omega) hq).lt
        have HXW := hid (fun q (hq : q < xs.length) => HXB.out q hq)
        clear hjl hj
        have hmk := HMK.out
        have qb := HBB.out.k14
        go_wp2_with fail
        clear hmk qb
        have HOVB := hid (show Blk (wr.alloc (.cells (Array.replicate ll.length (Value.bool false)) 4)) wr.heap.size 4 (ovr (mk0 s ll ll.length)) from by rw [← ovr_start]; exact Blk.made rfl (by simp))
        have hwz : (wr.alloc (.cells (Array.replicate ll.length (Value.bool false)) 4)).heap.size = wr.heap.size + 1 := by simp
        have HKA := hid ((Keep.refl (fun _ => False) wr).alloc (.cells (Array.replicate ll.length (Value.bool false)) 4))
        have HK7 : Hid (Keep0 w wr) := hid (Keep0.step HK6.out HKR.out)
        generalize hw8 : wr.alloc (.cells (Array.replicate ll.length (Value.bool false)) 4) = w8 at *
        have hobB0 : w.heap.size ≤ wr.heap.size := HK7.out.size
        generalize hob : wr.heap.size = ob at *
        have hobB : w.heap.size ≤ ob := hobB0
        have HK8 : Hid (Keep0 w w8) := hid (HK7.out.trans HKA.out (fun _ _ h => h))
        have HMS0 := hid (show MS w.heap.size m a ob av s v l 4294967296 (leftN WW av s) xs WW lv5 w8.heap.size 0 w8 WW [] (mk0 s ll ll.length) (ovr (mk0 s ll ll.length)) from
          ⟨⟨lv5, HM7.out.same HKA.out, fun _ h => Or.inl h⟩, by have h := HMI0.out; simpa using h, HMR.out.keep HKA.out (fun _ _ h => h), HOVB.out, by simp, rfl, fun _ _ => rfl, Nat.le_refl _⟩)
        have hrbn : ¬ ((rb = m ∨ rb = a ∨ rb ∈ xs ∨ rb = ob ∨ lv5.ownBlock = some rb) ∨ w8.heap.size ≤ rb) := by
          rintro ((h | h | h | h | h) | h)
          · exact hrbm h.symm
          · exact hrba h.symm
          · obtain ⟨q, hq, e⟩ := List.getElem_of_mem h
            exact hrbx q hq e
          · omega
          · exact hrbl h
          · omega
        have hboxn : ¬ ((w.heap.size = m ∨ w.heap.size = a ∨ w.heap.size ∈ xs ∨ w.heap.size = ob ∨ lv5.ownBlock = some w.heap.size) ∨ w8.heap.size ≤ w.heap.size) := by
          rintro ((h | h | h | h | h) | h)
          · exact hbm h.symm
          · exact hba h.symm
          · obtain ⟨q, hq, e⟩ := List.getElem_of_mem h
            exact hbx q hq e
          · omega
          · exact hbl h
          · omega
        have hrbz : rb < w8.heap.size := by omega
        have HROW := hid (fun q (hq : q < xs.length) (w' : World) (hk : Keep (fun b => (b = m ∨ b = a ∨ b ∈ xs ∨ b = ob ∨ lv5.ownBlock = some b) ∨ w8.heap.size ≤ b) w8 w') => (show w'.cell? ⟨rb, q, none⟩ = some (ptr xs[q]) from (cell_old hk hrbz hrbn _).trans ((cell_old HKA.out (by rw [hob]; exact hrbz0) (fun h => h) _).trans (hrow q hq))))
        have HBOX := hid (fun (w' : World) (hk : Keep (fun b => (b = m ∨ b = a ∨ b ∈ xs ∨ b = ob ∨ lv5.ownBlock = some b) ∨ w8.heap.size ≤ b) w8 w') => (show Blk w' w.heap.size 45 [i64 t, i64 s, i64 g, i64 l, i64 r, i64 k, .slice PA P.length pc, .slice LA L.length lc, .int .u8 nd, .int .u32 nn, .int .u8 st, .int .u32 avl, .slice QA Q.length qc, .slice KA K.length kc] from hk.blk (HKA.out.blk HBB.out (fun h => h)) hboxn))
        have HLV5 := hid (fun b (e : lv5.ownBlock = some b) => (HM7.out.log.lt b e).1)
        have hw6 := HK6.out.size
        have HFAR := hid (fun (w' : World) (hk : Keep (fun b => (b = m ∨ b = a ∨ b ∈ xs ∨ b = ob ∨ lv5.ownBlock = some b) ∨ w8.heap.size ≤ b) w8 w') => (show Keep0 w w' from by
          refine keep_far HK8.out hk ?_
          rintro b ((rfl | rfl | h | rfl | h) | h)
          · exact hzm'
          · exact hza'
          · obtain ⟨q, hq, rfl⟩ := List.getElem_of_mem h
            exact Nat.le_trans hw6 (HXW.out q hq)
          · exact hobB
          · exact HLV5.out b h
          · exact Nat.le_trans HK8.out.size h))
        have hnsq : ((40 * ll.length * ll.length : Nat) : Int) = 40 * (ll.length : Int) * (ll.length : Int) := by push_cast; rfl
        have hnsb : 40 * ll.length * ll.length ≤ 1440 := by
          have h1 : 40 * ll.length ≤ 240 := by omega
          calc 40 * ll.length * ll.length ≤ 240 * 6 := Nat.mul_le_mul h1 (by omega)
            _ = 1440 := rfl
        have HN0 := hid (fun q (hq : q < (mk0 s ll ll.length).length) => (show (mk0 s ll ll.length)[q].n = rd ll q % 50 + 1 from by rw [mk0_get]))
        have HL0 := hid (mk0_length s ll ll.length)
        clear HO HMR HXB HBB HKR HMI0 HMK HM6 HM7 HK6 HK7 HKA HB6 HOVB hrow hrbx hrbt hbx hx6 HPI HPW HPK2 hPW hm0 hrbn hboxn hw8 HI hz0 hz1 hz2 hrbm hrba hrbB hrbl hbm hba hbl hwz hA1
        have hg40 : ((40 : Int) * (ll.length : Int)) ≤ 240 := by omega
        have y40 : IntKind.i64.wrap (40 * (ll.length : Int)) = 40 * (ll.length : Int) := IntWalk.i64_in _ (by omega)
        have y41 : IntKind.i64.wrap (40 * (ll.length : Int) * (ll.length : Int)) = 40 * (ll.length : Int) * (ll.length : Int) := IntWalk.i64_in _ (by omega)
        have y42 : IntKind.i64.wrap ((pk.length : Int) + 40 * (ll.length : Int) * (ll.length : Int)) = (pk.length : Int) + 40 * (ll.length : Int) * (ll.length : Int) := IntWalk.i64_in _ (by omega)
        go_loopw [17] (fun v17 wr => ∃ i : Nat, i ≤ pk.length + 40 * ll.length * ll.length ∧ v17 = .int .i64 i ∧ ∃ W LG ms, MS w.heap.size m a ob av s v l 4294967296 (leftN WW av s) xs WW lv5 w8.heap.size i wr W LG ms (ovr ms) ∧ ms.length = ll.length ∧ (∀ q (hq : q < ms.length), ms[q].n = rd ll q % 50 + 1) ∧ Prog av pk.length i W LG ms ∧ Keep (fun b => (b = m ∨ b = a ∨ b ∈ xs ∨ b = ob ∨ lv5.ownBlock = some b) ∨ w8.heap.size ≤ b) w8 wr) (fun v _ => pk.length + 40 * ll.length * ll.length - (intOf v).toNat)
        case atStart => exact ⟨0, Nat.zero_le _, rfl, WW, [], _, HMS0.out, HL0.out, HN0.out, prog_start, Keep.refl _ _⟩
        case round =>
          obtain ⟨i, hi, rfl, W, LG, ms, hms, hlen, hns, hpr, hkm⟩ := hrel
          have HMS := hid hms
          have HNS := hid hns
          have HPR := hid hpr
          have HKM := hid hkm
          clear hms hns hpr hkm HMS0 HL0 HN0
          by_cases hlt : i < pk.length + 40 * ll.length * ll.length
          · have glt : ((i : Int) < (pk.length : Int) + 40 * (ll.length : Int) * (ll.length : Int)) = True := by simp; omega
            have hi0 : (0 : Int) ≤ i := by omega
            have hnz : (ll.length : Int) ≠ 0 := by omega
            have hne : ll ≠ [] := fun e => by rw [e] at hl1; simp at hl1
            obtain ⟨k0, hk0⟩ : ∃ k0 : Nat, k0 = i % ll.length := ⟨_, rfl⟩
            have hk0l : k0 < ll.length := by rw [hk0]; exact Nat.mod_lt _ (by omega)
            have hk0i : ((i : Int)).tmod (ll.length : Int) = (k0 : Int) := by rw [Int.tmod_eq_emod_of_nonneg hi0, hk0]; simp
            have hk0j : ((i : Int)) % (ll.length : Int) = (k0 : Int) := by rw [hk0]; simp
            have HKZ := hid hk0
            clear hk0
            by_cases hip : i < pk.length
            · have gip : ((i : Int) < (pk.length : Int)) = True := by simp; omega
              obtain ⟨pb, po, rfl, hpc⟩ := (HPKA.out.keep (HFAR.out wr HKM.out)).cell (by omega)
              have cp := hpc i hip
              have cpz := World.block_lt_of_cell? _ _ cp
              simp only at cpz
              have hpb := HPKB.out i hip
              have y1 : IntKind.i64.wrap (rd pk i) = rd pk i := IntWalk.i64_in _ (by omega)
              obtain ⟨kk, hk⟩ := Int.eq_ofNat_of_zero_le (Int.emod_nonneg (rd pk i) hnz)
              have hkl : kk < ll.length := by have := Int.emod_lt_of_pos (rd pk i) (show (0 : Int) < ll.length by omega); omega
              have y2 : (rd pk i).tmod (ll.length : Int) = (kk : Int) := by rw [Int.tmod_eq_emod_of_nonneg hpb.1]; exact hk
              clear hpc
              have hkx : kk < xs.length := by have := HMS.out.row.len; omega
              have hkm : kk < ms.length := by rw [hlen]; exact hkl
              have hik : pk.length ≤ i → i % ms.length = kk := fun h => absurd h (by omega)
              have co : wr.cell? ⟨ob, kk, none⟩ = some (.bool (decide (ms[kk].next = 7))) := by rw [HMS.out.ovr.cell kk]; exact ovr_get ms kk hkm
              have cf := HMS.out.ovr.frozen kk
              have cz := HMS.out.ovr.lt
              by_cases h7 : ms[kk].next = 7
              · rw [decide_eq_true h7] at co
                go_wp2_with fail
                go_roundw
                case rel => exact ⟨i + 1, by omega, by go_num, W, LG, ms, HMS.out.more, hlen, HNS.out, HPR.out.stay kk hkm h7 hik, HKM.out⟩
                case measure => simp [intOf]; omega
              · rw [decide_eq_false h7] at co
                have h77 : ms[kk].next < 7 := by have := (HMS.out.mi.mach kk hkm).2.nx; have e : (ms[kk].ps W LG).next = ms[kk].next := rfl; omega
                have cr := HROW.out kk hkx wr HKM.out
                have crz := Nat.lt_of_lt_of_le hrbz HKM.out.size
                have hst := HMS.out.step kk hkm hkx h77 (by omega) (by omega)
                have hpg := HPR.out.step (lim := l) kk hkm h77 hik
                have hnn : ∀ q (hq : q < (ms.set kk (ms[kk].of (pNext av (av + 1 + ms[kk].u) ms[kk].n l (ms[kk].ps W LG)))).length), (ms.set kk (ms[kk].of (pNext av (av + 1 + ms[kk].u) ms[kk].n l (ms[kk].ps W LG))))[q].n = rd ll q % 50 + 1 := by
                  intro q hq
                  have hq' : q < ms.length := by simpa using hq
                  by_cases e : q = kk
                  · subst e
                    rw [List.getElem_set_self]
                    exact HNS.out q hq'
                  · rw [List.getElem_set_ne (fun e2 => e e2.symm)]
                    exact HNS.out q hq'
                have hov := ovr_set ms kk (pNext av (av + 1 + ms[kk].u) ms[kk].n l (ms[kk].ps W LG)) hkm
                have hnl : (ms.set kk (ms[kk].of (pNext av (av + 1 + ms[kk].u) ms[kk].n l (ms[kk].ps W LG)))).length = ll.length := by rw [List.length_set]; exact hlen
                generalize pNext av (av + 1 + ms[kk].u) ms[kk].n l (ms[kk].ps W LG) = t8 at *
                generalize ms.set kk (ms[kk].of t8) = ms8 at *
                have HST := hid hst
                have HPG := hid hpg
                have HNN := hid hnn
                have HOV := hid hov
                clear hst hpg hnn hov
                generalize xs[kk] = xk at *
                go_wp2_with fail
                refine HST.out.mono ?_
                rintro e w9 ⟨rfl, hms9, hk9⟩
                have hob9 := hms9.ovr
                have co9 : w9.cell? ⟨ob, kk, none⟩ = some (.bool false) := by rw [hob9.cell kk, ovr_get ms kk hkm, decide_eq_false h7]
                have cf9 := hob9.frozen kk
                have cz9 := hob9.lt
                have HM9 := hid (show MS w.heap.size m a ob av s v l 4294967296 (leftN WW av s) xs WW lv5 w8.heap.size (i + 1) (w9.setCell ⟨ob, kk, none⟩ (.bool (decide (t8.next = 7)))) t8.W t8.L ms8 (ovr ms8) from by rw [HOV.out]; exact hms9.set kk _ hobB)
                have HK9 := hid (show Keep (fun b => (b = m ∨ b = a ∨ b ∈ xs ∨ b = ob ∨ lv5.ownBlock = some b) ∨ w8.heap.size ≤ b) w8 (w9.setCell ⟨ob, kk, none⟩ (.bool (decide (t8.next = 7)))) from (HKM.out.trans (hk9.mono (by
                  rintro b ((h | h | h | h) | h)
                  · exact Or.inl (Or.inl h)
                  · exact Or.inl (Or.inr (Or.inl h))
                  · exact Or.inl (Or.inr (Or.inr (Or.inl h)))
                  · exact Or.inl (Or.inr (Or.inr (Or.inr (Or.inr h))))
                  · exact Or.inr h)) (fun _ _ h => h)).set _ _ (fun _ => Or.inl (Or.inr (Or.inr (Or.inr (Or.inl rfl))))))
                clear hms9 hk9 hob9 HST
                go_wp2_with fail
                go_roundw
                case rel => exact ⟨i + 1, by omega, by go_num, t8.W, t8.L, ms8, HM9.out, hnl, HNN.out, HPG.out, HK9.out⟩
                case measure => simp [intOf]; omega
            · have gip : ((i : Int) < (pk.length : Int)) = False := by simp; omega
              obtain ⟨kk, hkk0⟩ : ∃ q, q = k0 := ⟨_, rfl⟩
              subst hkk0
              have hkl := hk0l
              have hkx : kk < xs.length := by have := HMS.out.row.len; omega
              have hkm : kk < ms.length := by rw [hlen]; exact hkl
              have hik : pk.length ≤ i → i % ms.length = kk := fun _ => by rw [hlen]; exact HKZ.out.symm
              have co : wr.cell? ⟨ob, kk, none⟩ = some (.bool (decide (ms[kk].next = 7))) := by rw [HMS.out.ovr.cell kk]; exact ovr_get ms kk hkm
              have cf := HMS.out.ovr.frozen kk
              have cz := HMS.out.ovr.lt
              by_cases h7 : ms[kk].next = 7
              · rw [decide_eq_true h7] at co
                go_wp2_with fail
                go_roundw
                case rel => exact ⟨i + 1, by omega, by go_num, W, LG, ms, HMS.out.more, hlen, HNS.out, HPR.out.stay kk hkm h7 hik, HKM.out⟩
                case measure => simp [intOf]; omega
              · rw [decide_eq_false h7] at co
                have h77 : ms[kk].next < 7 := by have := (HMS.out.mi.mach kk hkm).2.nx; have e : (ms[kk].ps W LG).next = ms[kk].next := rfl; omega
                have cr := HROW.out kk hkx wr HKM.out
                have crz := Nat.lt_of_lt_of_le hrbz HKM.out.size
                have hst := HMS.out.step kk hkm hkx h77 (by omega) (by omega)
                have hpg := HPR.out.step (lim := l) kk hkm h77 hik
                have hnn : ∀ q (hq : q < (ms.set kk (ms[kk].of (pNext av (av + 1 + ms[kk].u) ms[kk].n l (ms[kk].ps W LG)))).length), (ms.set kk (ms[kk].of (pNext av (av + 1 + ms[kk].u) ms[kk].n l (ms[kk].ps W LG))))[q].n = rd ll q % 50 + 1 := by
                  intro q hq
                  have hq' : q < ms.length := by simpa using hq
                  by_cases e : q = kk
                  · subst e
                    rw [List.getElem_set_self]
                    exact HNS.out q hq'
                  · rw [List.getElem_set_ne (fun e2 => e e2.symm)]
                    exact HNS.out q hq'
                have hov := ovr_set ms kk (pNext av (av + 1 + ms[kk].u) ms[kk].n l (ms[kk].ps W LG)) hkm
                have hnl : (ms.set kk (ms[kk].of (pNext av (av + 1 + ms[kk].u) ms[kk].n l (ms[kk].ps W LG)))).length = ll.length := by rw [List.length_set]; exact hlen
                generalize pNext av (av + 1 + ms[kk].u) ms[kk].n l (ms[kk].ps W LG) = t8 at *
                generalize ms.set kk (ms[kk].of t8) = ms8 at *
                have HST := hid hst
                have HPG := hid hpg
                have HNN := hid hnn
                have HOV := hid hov
                clear hst hpg hnn hov
                generalize xs[kk] = xk at *
                go_wp2_with fail
                refine HST.out.mono ?_
                rintro e w9 ⟨rfl, hms9, hk9⟩
                have hob9 := hms9.ovr
                have co9 : w9.cell? ⟨ob, kk, none⟩ = some (.bool false) := by rw [hob9.cell kk, ovr_get ms kk hkm, decide_eq_false h7]
                have cf9 := hob9.frozen kk
                have cz9 := hob9.lt
                have HM9 := hid (show MS w.heap.size m a ob av s v l 4294967296 (leftN WW av s) xs WW lv5 w8.heap.size (i + 1) (w9.setCell ⟨ob, kk, none⟩ (.bool (decide (t8.next = 7)))) t8.W t8.L ms8 (ovr ms8) from by rw [HOV.out]; exact hms9.set kk _ hobB)
                have HK9 := hid (show Keep (fun b => (b = m ∨ b = a ∨ b ∈ xs ∨ b = ob ∨ lv5.ownBlock = some b) ∨ w8.heap.size ≤ b) w8 (w9.setCell ⟨ob, kk, none⟩ (.bool (decide (t8.next = 7)))) from (HKM.out.trans (hk9.mono (by
                  rintro b ((h | h | h | h) | h)
                  · exact Or.inl (Or.inl h)
                  · exact Or.inl (Or.inr (Or.inl h))
                  · exact Or.inl (Or.inr (Or.inr (Or.inl h)))
                  · exact Or.inl (Or.inr (Or.inr (Or.inr (Or.inr h))))
                  · exact Or.inr h)) (fun _ _ h => h)).set _ _ (fun _ => Or.inl (Or.inr (Or.inr (Or.inr (Or.inl rfl))))))
                clear hms9 hk9 hob9 HST
                go_wp2_with fail
                go_roundw
                case rel => exact ⟨i + 1, by omega, by go_num, t8.W, t8.L, ms8, HM9.out, hnl, HNN.out, HPG.out, HK9.out⟩
                case measure => simp [intOf]; omega
          · have hieq : i = pk.length + 40 * ms.length * ms.length := by rw [hlen]; omega
            have glt : ((i : Int) < (pk.length : Int) + 40 * (ll.length : Int) * (ll.length : Int)) = False := by simp; omega
            have hi2 : i ≤ 2000 := by omega
            have h7all : ∀ q (hq : q < ms.length), ms[q].next = 7 := fun q hq => by
              have h := HPR.out
              rw [hieq] at h
              exact h.done q hq (by have := (HMS.out.mi.mach q hq).2.nx; exact this)
            have H7 := hid h7all
            obtain ⟨⟨lv9, hm9, _⟩, hmi9, hrow9, hov9, _, hlw9, hoth9, _⟩ := id HMS.out
            have HM9 := hid hm9
            have HMI := hid hmi9
            have HR9 := hid hrow9
            have HOV9 := hid hov9
            have HB9 := hid (HBOX.out wr HKM.out)
            have HK9 : Hid (Keep0 w wr) := hid (HFAR.out wr HKM.out)
            have HROW9 := hid (fun q (hq : q < xs.length) => HROW.out q hq wr HKM.out)
            have hrb9 : rb < wr.heap.size := Nat.lt_of_lt_of_le hrbz HKM.out.size
            have hbl9 : ∀ q, -4398046511104 ≤ rd W q ∧ rd W q ≤ 4398046511104 := fun q => by
              by_cases e1 : q = av
              · subst e1; have := hmi9.wav; omega
              · by_cases e2 : q < av ∨ av + s < q
                · rw [hoth9 q e2]; exact HALL0.out q
                · have := hmi9.lease (q - (av + 1)) (by omega)
                  rw [show av + 1 + (q - (av + 1)) = q from by omega] at this
                  omega
            have HBW := hid hbl9
            have hleft0 := hmi9.left
            have hle2 := (leftN_le W av s l hmi9.lease).2
            have hwav := hmi9.wav
            have hfb := leftN_bound WW av 4398046511104 HALL0.out s
            have hsn : ((s : Nat) : Int) + 1 ≤ 9 := by omega
            have hown : ∀ q (hq : q < ms.length), ms[q].own = if ms[q].bad = true then 0 else -(rd ll q % 50 + 1) := fun q hq => by
              unfold Mc.own pOwn Mc.ps
              simp only [h7all q hq, if_true]
              rw [HNS.out q hq]
            have hmodb : ∀ q, 0 ≤ rd ll q % 50 ∧ rd ll q % 50 < 50 := fun q => ⟨Int.emod_nonneg _ (by omega), Int.emod_lt_of_pos _ (by omega)⟩
            have hob1 := fun j hj => isum_bd ms Mc.own 64 (fun q hq => by rw [hown q hq]; have := hmodb q; split <;> omega) j hj
            have hob2 := fun j hj => isum_bd ms (fun c => c.n + l) 2097152 (fun q hq => by show -2097152 ≤ ms[q].n + l ∧ ms[q].n + l ≤ 2097152; rw [HNS.out q hq]; have := hmodb q; omega) j hj
            have HOWN := hid hown
            have HBD1 := hid hob1
            have HBD2 := hid hob2
            have hlen2 := hlen
            obtain ⟨w9, rfl⟩ : ∃ w9 : World, w9 = wr := ⟨_, rfl⟩
            clear hm9 hmi9 hrow9 hov9 HMS HPR HKM HBOX HROW HFAR h7all hlt hi hob1 hob2 hown hbl9 hoth9
            generalize hF : leftN WW av s = F at *
            have HLEFT := hid hleft0
            clear hF hleft0 hieq hlen2
            go_wp2_with fail
            go_loopw [20, 21] (fun v20 v21 wq => ∃ j : Nat, j ≤ s ∧ v21 = .int .i64 j ∧ v20 = .int .i64 ((j : Int) * l) ∧ Keep0 w9 wq) (fun _ v _ => s - (intOf v).toNat)
            case atStart => exact ⟨0, Nat.zero_le _, rfl, by simp, Keep.refl _ _⟩
            case round =>
              obtain ⟨j, hj, rfl, rfl, hk⟩ := hrel
              have HKQ := hid hk
              have qb := (hk.blk HB9.out (fun h => h)).k14
              have hjl := mul_bd 8 1048576 (show (0 : Int) ≤ j by omega) (by omega) hl.1 hl.2
              have HJ := hid (show ((j + 1 : Nat) : Int) * l = (j : Int) * l + l from by rw [show ((j + 1 : Nat) : Int) = (j : Int) + 1 from by omega, Int.add_mul, Int.one_mul])
              clear hk
              by_cases hjs : j < s
              · have gjs : ((j : Int) < (s : Int)) = True := by simp; omega
                generalize (j : Int) * l = jl at *
                have yj : IntKind.i64.wrap (jl + l) = jl + l := IntWalk.i64_in _ (by omega)
                go_wp2_with fail
                go_roundw
                case rel => exact ⟨j + 1, by omega, by go_num, by rw [HJ.out], HKQ.out⟩
                case measure => simp [intOf]; omega
              · obtain rfl : j = s := by omega
                have gjs : ((j : Int) < (j : Int)) = False := by simp
                have HJL : Hid ((j : Int) * l ≤ 8388608 ∧ 0 ≤ (j : Int) * l) := hid (by omega)
                have hpoor := HMI.out.poor
                have HPOOR := hid hpoor
                clear hpoor HJ hjl
                generalize hjl2 : (j : Int) * l = jl at *
                clear hjl2
                go_wp2_with fail
                go_loopw [12, 19, 22] (fun v12 v19 v22 wq => ∃ q : Nat, q ≤ ll.length ∧ v22 = .int .i64 q ∧ v12 = .int .i64 (F + isum ((ms.take q).map Mc.own)) ∧ v19 = .int .i64 (isum ((ms.take q).map (fun c => c.n + l))) ∧ Keep0 w9 wq) (fun _ _ v _ => ll.length - (intOf v).toNat)
                case atStart => exact ⟨0, Nat.zero_le _, rfl, by simp [isum], by simp [isum], HKQ.out⟩
                case round =>
                  obtain ⟨q, hq, rfl, rfl, rfl, hk⟩ := hrel
                  clear HKQ qb
                  have HKQ := hid hk
                  have qb := (hk.blk HB9.out (fun h => h)).k14
                  clear hk
                  by_cases hql : q < ll.length
                  · have gql : ((q : Int) < (ll.length : Int)) = True := by simp; omega
                    have hqm : q < ms.length := by omega
                    have hqx : q < xs.length := by omega
                    have co := (HKQ.out.blk HOV9.out (fun h => h)).cell q
                    rw [ovr_get ms q hqm, decide_eq_true (H7.out q hqm)] at co
                    have cz := (HKQ.out.blk HOV9.out (fun h => h)).lt
                    obtain ⟨lb, lo, rfl, hlc⟩ := (HLS.out.keep (HK9.out.trans HKQ.out (fun _ _ h => h))).cell (by omega)
                    have cl := hlc q hql
                    have clz := World.block_lt_of_cell? _ _ cl
                    simp only at clz
                    have cr := (cell_old HKQ.out hrb9 (fun h => h) _).trans (HROW9.out q hqx)
                    have crz := Nat.lt_of_lt_of_le hrb9 HKQ.out.size
                    have hbd := HLSB.out q hql
                    have hmd := hmodb q
                    have hbx := HKQ.out.blk (HR9.out.blk q hqm hqx) (fun h => h)
                    have HBX := hid hbx
                    have hb1 := HBD1.out q (by omega)
                    have hb2 := HBD2.out q (by omega)
                    have HS1 := hid (isum_take ms Mc.own q hqm)
                    have HS2 := hid (isum_take ms (fun c => c.n + l) q hqm)
                    have HOQ := hid (HOWN.out q hqm)
                    have HNQ := hid (HNS.out q hqm)
                    clear hlc hbx
                    generalize isum ((ms.take q).map Mc.own) = SO at *
                    generalize isum ((ms.take q).map (fun c => c.n + l)) = SM at *
                    have y1 : IntKind.i64.wrap (rd ll q) = rd ll q := IntWalk.i64_in _ (by omega)
                    have y2 : (rd ll q).tmod 50 = rd ll q % 50 := Int.tmod_eq_emod_of_nonneg hbd.1
                    generalize rd ll q = lq at *
                    have y3 : IntKind.i64.wrap (SM + lq % 50) = SM + lq % 50 := IntWalk.i64_in _ (by omega)
                    have y4 : IntKind.i64.wrap (SM + lq % 50 + 1) = SM + lq % 50 + 1 := IntWalk.i64_in _ (by omega)
                    have y5 : IntKind.i64.wrap (SM + lq % 50 + 1 + l) = SM + lq % 50 + 1 + l := IntWalk.i64_in _ (by omega)
                    have y6 : IntKind.i64.wrap (F + SO - lq % 50) = F + SO - lq % 50 := IntWalk.i64_in _ (by omega)
                    have y7 : IntKind.i64.wrap (F + SO - lq % 50 - 1) = F + SO - lq % 50 - 1 := IntWalk.i64_in _ (by omega)
                    generalize xs[q] = xq at *
                    go_wp2_with fail
                    go_region
                    go_wp2_with fail
                    cases hbq : ms[q].bad
                    · refine (m_Ans0 (HBX.out.drew) hbq).mono ?_
                      rintro e wa ⟨rfl, hk⟩
                      have HKA2 : Hid (Keep0 w9 wa) := hid (Keep0.step HKQ.out.drew hk)
                      have cl2 := (cell_old hk (show lb < _ from clz) (fun h => h) _).trans cl
                      have cl2z := Nat.lt_of_lt_of_le clz hk.size
                      rw [hbq, if_neg (by decide)] at HOQ
                      clear hk co cz cl clz cr crz qb
                      go_wp2_with fail
                      go_roundw
                      case rel => exact ⟨q + 1, by omega, by go_num, by rw [HS1.out, HOQ.out]; congr 1; omega, by rw [HS2.out]; show _ = i64 (SM + (ms[q].n + l)); rw [HNQ.out]; congr 1; omega, HKA2.out⟩
                      case measure => simp [intOf]; omega
                    · refine (m_Ans1 (HBX.out.drew) hbq).mono ?_
                      rintro e wa ⟨rfl, hk⟩
                      have HKA2 : Hid (Keep0 w9 wa) := hid (Keep0.step HKQ.out.drew hk)
                      rw [hbq, if_pos rfl] at HOQ
                      clear hk co cz cl clz cr crz qb
                      go_wp2_with fail
                      go_roundw
                      case rel => exact ⟨q + 1, by omega, by go_num, by rw [HS1.out, HOQ.out]; congr 1; omega, by rw [HS2.out]; show _ = i64 (SM + (ms[q].n + l)); rw [HNQ.out]; congr 1; omega, HKA2.out⟩
                      case measure => simp [intOf]; omega
                  · obtain rfl : q = ll.length := by omega
                    have gql : ((ll.length : Int) < (ll.length : Int)) = False := by simp
                    rw [List.take_of_length_le (by omega)]
                    have hb2 := HBD2.out ll.length (by omega)
                    rw [List.take_of_length_le (by omega)] at hb2
                    generalize isum (ms.map Mc.own) = SO at *
                    have HPR2 := HPOOR
                    generalize isum (ms.map (fun c => c.n + l)) = SM at *
                    have y1 : IntKind.i64.wrap (SM + jl) = SM + jl := IntWalk.i64_in _ (by have := HJL.out; omega)
                    go_wp2_with fail
                    go_loopw [23] (fun v23 wq2 => ∃ q : Nat, q ≤ ll.length ∧ v23 = .int .i64 q ∧ Keep0 w9 wq2) (fun v _ => ll.length - (intOf v).toNat)
                    case atStart => exact ⟨0, Nat.zero_le _, rfl, HKQ.out⟩
                    case round =>
                      obtain ⟨q, hq, rfl, hk⟩ := hrel
                      clear HKQ qb
                      have HKQ := hid hk
                      have qb := (hk.blk HB9.out (fun h => h)).k14
                      clear hk
                      by_cases hql : q < ll.length
                      · have gql : ((q : Int) < (ll.length : Int)) = True := by simp; omega
                        have hqm : q < ms.length := by omega
                        have hqx : q < xs.length := by omega
                        have cr := (cell_old HKQ.out hrb9 (fun h => h) _).trans (HROW9.out q hqx)
                        have crz := Nat.lt_of_lt_of_le hrb9 HKQ.out.size
                        have HBX := hid (HKQ.out.blk (HR9.out.blk q hqm hqx) (fun h => h))
                        have hpq := HPOOR.out q hqm
                        generalize xs[q] = xq at *
                        go_wp2_with fail
                        cases hbq : ms[q].bad
                        · refine (m_Ans0 HBX.out hbq).mono ?_
                          rintro e wa ⟨rfl, hk⟩
                          have HKA2 : Hid (Keep0 w9 wa) := hid (Keep0.step HKQ.out hk)
                          clear hk cr crz qb hpq
                          go_wp2_with fail
                          go_roundw
                          case rel => exact ⟨q + 1, by omega, by go_num, HKA2.out⟩
                          case measure => simp [intOf]; omega
                        · have hpq2 := hpq hbq
                          refine (m_Ans1 HBX.out hbq).mono ?_
                          rintro e wa ⟨rfl, hk⟩
                          have HKA2 : Hid (Keep0 w9 wa) := hid (Keep0.step HKQ.out hk)
                          have gge : ¬ SM + jl ≤ F := by omega
                          clear hk cr crz qb hpq hpq2
                          go_wp2_with fail
                          go_roundw
                          case rel => exact ⟨q + 1, by omega, by go_num, HKA2.out⟩
                          case measure => simp [intOf]; omega
                      · obtain rfl : q = ll.length := by omega
                        have g0 : (0 : Int) ≤ F + SO := by have := HLEFT.out; omega
                        have HMZ := hid (HM9.out.same HKQ.out)
                        go_wp2_with fail
                        have hpl := pool_Left t g l r k j PA P.length pc LA L.length lc v av HMZ.out (by omega) (by omega) (by omega) hv0 (by omega) HAV.out (by omega) HBW.out
                        rw [HLEFT.out] at hpl
                        refine hpl.mono ?_
                        rintro e wa ⟨rfl, hk⟩
                        have HKE : Hid (Keep0 w wa) := hid ((HK9.out.trans HKQ.out (fun _ _ h => h)).trans hk (fun _ _ h => h))
                        clear hk
                        go_wp2_with fail
                        go_ret
                        exact ⟨rfl, HKE.out⟩
end Go.Proofs.Ytdjfeapncpcmgaa
