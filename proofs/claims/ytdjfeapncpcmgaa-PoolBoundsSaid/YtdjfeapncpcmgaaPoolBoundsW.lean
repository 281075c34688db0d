/- PoolBounds: whatever others do, who leave a pool as it may be, so does the machine, at each step. -/
import Derived.Test.YtdjfeapncpcmgaaPoolExactW
namespace Go.Proofs.Ytdjfeapncpcmgaa
open Go.RowKit
set_option linter.unusedVariables false
set_option linter.unusedSimpArgs false
set_option maxRecDepth 100000

def bndD (n : Nat) : Nat → Value → World → Prop
  | 8 => fun u w => ∃ A c, u = .slice A n c
  | _ => fun _ _ => True
theorem bndD_stable {n : Nat} : Stable (bndD n) := by
  intro i u w w' h hk
  unfold bndD at *
  split at h <;> first | exact h | trivial

section
variable {B m a x av le len L0 N k : Nat} {nd n lim X : Int} {lv0 : Value} {w : World} {t : PS}
theorem sys_same {w' : World} (h : PoolSys B m a x av le nd n lim X len L0 lv0 N k w t) (hk : Keep0 w w') : PoolSys B m a x av le nd n lim X len L0 lv0 N k w' t := by
  obtain ⟨lv1, h1, h2, h3, h4, h5, h6, h8⟩ := h
  exact ⟨lv1, h1.same hk, h2, hk.blk h3 (fun h => h), h4, h5, h6, Nat.le_trans h8 hk.size⟩
theorem sys_poke (h : PoolSys B m a x av le nd n lim X len L0 lv0 N k w t) (i y : Int) (h0 : 0 ≤ i) (hi : i < len) (hok : (i = av → 0 ≤ y ∧ y ≤ X) ∧ (i = le → 0 ≤ y ∧ y ≤ lim)) :
    Calls Try.prog 38 #[ptr m, i64 i, i64 y] w fun e w' => e = .returned (.tuple #[]) ∧ PoolSys B m a x av le nd n lim X len L0 lv0 N k w' (pPk t i.toNat y) ∧ Keep (fun b => (b = m ∨ b = a ∨ b = x ∨ lv0.ownBlock = some b) ∨ N ≤ b) w w' := by
  obtain ⟨lv1, h1, h2, h3, h4, h5, h6, h8⟩ := h
  have hxa := h3.ne h1.words (by decide)
  refine (mem_Poke i y h1 h0 (by rw [h4]; exact hi)).mono ?_
  rintro e w2 ⟨rfl, hm2, hk2⟩
  exact ⟨rfl, ⟨lv1, hm2, h2, hk2.blk h3 (fun e => hxa e), by simp [pPk, h4], h5, h6.poke _ _ ⟨fun e => by have := hok.1 (by omega); omega, fun e => hok.2 (by omega)⟩, Nat.le_trans h8 hk2.size⟩, hk2.mono (fun k e => Or.inl (Or.inr (Or.inl e)))⟩
theorem sys_step (h : PoolSys B m a x av le nd n lim X len L0 lv0 N k w t) (hk : k ≤ 2000) (hX : X ≤ 1099511627776) (hL : L0 ≤ 1000000) (h7 : t.next < 7) :
    Calls Try.prog 29 #[ptr x, ptr m] w fun e w' => e = .returned (.bool (pStp av le n lim t).2) ∧ PoolSys B m a x av le nd n lim X len L0 lv0 N (k + 1) w' (pStp av le n lim t).1 ∧ Keep (fun b => (b = m ∨ b = a ∨ b = x ∨ lv0.ownBlock = some b) ∨ N ≤ b) w w' := by
  obtain ⟨lv1, h1, h2, h3, h4, h5, h6, h8⟩ := h
  refine (pool_Step t h1 h3 h6 (by omega) (by omega)).mono ?_
  rintro e w2 ⟨rfl, lv2, hm2, hx2, hk2, hl2⟩
  refine ⟨rfl, ⟨lv2, hm2, ?_, hx2, ?_, ?_, ?_, Nat.le_trans h8 hk2.size⟩, hk2.mono ?_⟩
  · intro k hk
    rcases hl2 k hk with h | h
    · exact h2 k h
    · exact Or.inr (Nat.le_trans h8 h)
  · exact (pNext_len t).trans h4
  · show (pNext av le _ lim t).L.length ≤ _
    rw [pNext_log t h7]; omega
  · exact h6.step.more (by omega)
  · rintro k ((h | h | h) | h)
    · exact Or.inl (Or.inl h)
    · exact Or.inl (Or.inr (Or.inl h))
    · rcases h2 k h with h | h
      · exact Or.inl (Or.inr (Or.inr (Or.inr h)))
      · exact Or.inr h
    · exact Or.inl (Or.inr (Or.inr (Or.inl h)))
end

set_option maxHeartbeats 4000000 in
theorem poolBounds_walk {w : World} {v0 : Value} (hc : PoolIn w v0) : Calls Try.prog 8 #[v0] w (Ret (.bool true) w) := by
  obtain ⟨t, s, g, l, r, k, P, L, PA, pc, LA, lc, nd, nn, st, avl, Q, QA, qc, K, KA, kc, rfl, hP, hL, hp1, hl1, hnd, hnn, hst, havl, hQ, hq1, hq2, hK, hk1⟩ := hc
  have HB : Hid (Blk (w.alloc (.cells #[i64 t, i64 s, i64 g, i64 l, i64 r, i64 k, .slice PA P.length pc, .slice LA L.length lc, .int .u8 nd, .int .u32 nn, .int .u8 st, .int .u32 avl, .slice QA Q.length qc, .slice KA K.length kc] 45)) w.heap.size 45 [i64 t, i64 s, i64 g, i64 l, i64 r, i64 k, .slice PA P.length pc, .slice LA L.length lc, .int .u8 nd, .int .u32 nn, .int .u8 st, .int .u32 avl, .slice QA Q.length qc, .slice KA K.length kc]) := hid (Blk.made rfl rfl)
  have HK0 : Hid (Keep0 w (w.alloc (.cells #[i64 t, i64 s, i64 g, i64 l, i64 r, i64 k, .slice PA P.length pc, .slice LA L.length lc, .int .u8 nd, .int .u32 nn, .int .u8 st, .int .u32 avl, .slice QA Q.length qc, .slice KA K.length kc] 45))) := hid ((Keep.refl _ _).alloc _)
  have HGD := hid (fun (w' : World) (hk : Keep0 w w') => law8_Good t s g l r k PA P pc LA L lc nd nn st avl QA Q qc KA K kc w' (hP.keep hk) (hL.keep hk) hp1 hl1 hq1 hk1)
  have HWO := hid (fun (w' : World) (hk : Keep0 w w') hR hq => law8_Words t s g l r k PA P pc LA L lc nd nn st avl QA Q qc KA K kc w' (hP.keep hk) (hL.keep hk) (hQ.keep hk) hR hnd hnn hst havl hq hq2)
  have HPK := hid (fun (w' : World) (hk : Keep0 w w') hR hk40 => law8_Pokes t s g l r k PA P pc LA L lc nd nn st avl QA Q qc KA K kc w' (hK.keep hk) hR hnd hnn hst hk40)
  clear hP hL hQ hK hq2
  go_enter Try.func8, Try.ntmps8
  go_wp2_with fail
  have qHB := HB.out.k14
  refine (law8_head _).mono ?_
  rintro e w1 ⟨rfl, hk⟩
  have HK1 : Hid (Keep0 w w1) := hid (Keep0.step HK0.out hk)
  have T := hk.blk HB.out (fun h => h)
  clear hk HB HK0 qHB
  have HB := hid T
  clear T
  have qHB := HB.out.k14
  go_wp2_with fail
  refine (HGD.out _ HK1.out).mono ?_
  rintro e w2 ⟨rfl, hk⟩
  have HK2 : Hid (Keep0 w w2) := hid (Keep0.step HK1.out hk)
  have T := hk.blk HB.out (fun h => h)
  clear hk HB HK1 qHB HGD hp1 hl1 hq1 hk1
  have HB := hid T
  clear T
  have qHB := HB.out.k14
  cases hgood : good8B t s g l r k P L Q.length K.length
  · go_wp2
    go_ret
    exact ⟨rfl, HK2.out⟩
  · simp only [good8B, Bool.and_eq_true, decide_eq_true_eq] at hgood
    obtain ⟨⟨hgood, hk40⟩, hq20⟩ := hgood
    have R := Right.of hgood
    clear hgood
    obtain ⟨s, rfl⟩ := Int.eq_ofNat_of_zero_le (show 0 ≤ s by have := R.sb; omega)
    have hs := R.sb
    have hp := R.p
    have hl := R.l
    have hkk := R.k
    have hlen := R.len
    have HOF := hid (fun (w' : World) => law8_Of t (s : Int) g l r k PA P pc LA L lc nd nn st avl QA Q qc KA K kc w' ⟨hp.1, by omega⟩ hs hnd hnn hst)
    have HWO2 := hid (fun w' hk => HWO.out w' hk R hq20)
    have HPK2 := hid (fun w' hk => HPK.out w' hk R hk40)
    clear HWO HPK
    have hv0 := Int.emod_nonneg nd (show (P.length : Int) ≠ 0 by omega)
    have hv1 := Int.emod_lt_of_pos nd (show (0 : Int) < P.length by omega)
    have hu0 := Int.emod_nonneg st (show (s : Int) ≠ 0 by omega)
    have hu1 := Int.emod_lt_of_pos st (show (0 : Int) < s by omega)
    have hn0 := Int.emod_nonneg nn (show (1048576 : Int) ≠ 0 by omega)
    have hn1 := Int.emod_lt_of_pos nn (show (0 : Int) < 1048576 by omega)
    generalize nd % (P.length : Int) = v at *
    generalize st % (s : Int) = u at *
    generalize hne : nn % 1048576 + 1 = n at *
    have hn : 1 ≤ n ∧ n ≤ 1048576 := by omega
    clear hne hn0 hn1
    have PW := poolWords R (v := v) (avl := avl) (Q := Q) ⟨hv0, hv1⟩ havl
    have hm1 := mul_bd 12 22 hv0 (by omega) (show 0 ≤ 6 + 2 * (s : Int) by omega) (by omega)
    have hm4 := mul_bd 12 22 (show (0 : Int) ≤ P.length by omega) (by omega) (show 0 ≤ 6 + 2 * (s : Int) by omega) (by omega)
    obtain ⟨av, hav⟩ := Int.eq_ofNat_of_zero_le (show 0 ≤ v * (6 + 2 * (s : Int)) + 1 by omega)
    rw [show (v * (6 + 2 * (s : Int)) + 1).toNat = av from by omega] at PW
    have hav0 : av ≤ 300 := by omega
    have HAV := hid hav.symm
    clear hav
    obtain ⟨u, rfl⟩ := Int.eq_ofNat_of_zero_le hu0
    have hus : u < s := by omega
    have hfit := PW.fit
    rw [Int.toNat_natCast] at hfit
    have hWl := PW.len
    generalize hWW : words8 (s : Int) k l L P.length v avl Q = WW at *
    clear hWW
    have HN : Hid ((P.length : Int) * (6 + 2 * (s : Int)) + 2 * k = (WW.length : Int)) := hid (by have := hkk; omega)
    have hWm : WW.length ≤ 10000 := by omega
    rw [← hWl] at hfit
    clear hWl
    have hPI : PInv av (av + 1 + u) n l 4294967296 ⟨WW, [], 0, 0, 0, 0, false⟩ := PInv.start (by omega) (by omega) (by omega) hn hl (PW.lease u (by rw [Int.toNat_natCast]; exact hus)) (by rw [PW.isav]; omega)
    have HPI := hid hPI
    have HPW := hid PW
    have HR := hid R
    clear hPI PW R hm4 hlen
    go_wp2_with fail
    refine (HOF.out _).mono ?_
    rintro e w3 ⟨rfl, hk⟩
    have HK3 : Hid (Keep0 w w3) := hid (Keep0.step HK2.out hk)
    have T := hk.blk HB.out (fun h => h)
    clear hk HB HK2 qHB HOF
    have HB := hid T
    clear T
    have qHB := HB.out.k14
    go_wp2_with fail
    refine (HWO2.out _ HK3.out).mono ?_
    rintro e w4 ⟨WA, Wc, rfl, how, hk⟩
    have HK4 : Hid (Keep0 w w4) := hid (Keep0.step HK3.out hk)
    have T := hk.blk HB.out (fun h => h)
    clear hk HB HK3 qHB HWO2
    have HB := hid T
    clear T
    have qHB := HB.out.k14
    obtain ⟨wg, rfl, hwg, hwge⟩ := ints_own how (by omega) rfl
    have HWG := hid hwg
    have HOW := hid how
    clear hwg how
    go_wp2_with fail
    refine (law8_Laid w.heap.size _ _ _ WW HWG.out.at_ hWm HK4.out.size).mono ?_
    rintro e w5 ⟨m, a, lv5, rfl, hm, hk, hzm, hza⟩
    have HM5 := hid hm
    have HK5 : Hid (Keep0 w w5) := hid (Keep0.step HK4.out hk)
    have hzm' := Nat.le_trans HK4.out.size hzm
    have hza' := Nat.le_trans HK4.out.size hza
    have HWG5 := hid (hk.ints HWG.out (fun h => h))
    have HOW5 := hid (ownsRow_keep HOW.out hk (fun _ _ h => h))
    have hwgm : wg ≠ a := by have := HWG.out.lt; omega
    have hwgm2 : wg ≠ m := by have := HWG.out.lt; omega
    have T := hk.blk HB.out (fun h => h)
    clear hk hm hzm hza HB HK4 qHB HWG HOW
    have HB := hid T
    clear T
    have qHB := HB.out.k14
    have HLL := hid (show ∀ (w' : World) lv (W : List Int) L, MemAt w.heap.size w' m a lv W L → ∀ k, MF m a lv k → w.heap.size ≤ k from by
      rintro w' lv W L h k (rfl | rfl | h2)
      · exact hzm'
      · exact hza'
      · exact (h.log.lt k h2).1)
    go_wp2_with fail
    refine (pool_New t (s : Int) g l r k PA P.length pc LA L.length lc v n (u : Int) _ hs.1 hs.2 hv0 (by omega) (by omega) (by omega)).mono ?_
    rintro e w6 ⟨x, rfl, hb, hk, hx⟩
    rw [show v * (6 + 2 * (s : Int)) + 1 = (av : Int) from HAV.out.symm, show v * (6 + 2 * (s : Int)) + 2 + (u : Int) = ((av + 1 + u : Nat) : Int) from by have := HAV.out; omega] at hb
    have HX6 := hid (show Blk w6 x 100 (pcs av (av + 1 + u) v n l 0 ⟨WW, [], 0, 0, 0, 0, false⟩) from hb)
    have HM6 := hid (HM5.out.same hk)
    have HK6 : Hid (Keep0 w w6) := hid (Keep0.step HK5.out hk)
    have hzx := Nat.le_trans HK5.out.size hx
    have HWG6 := hid (hk.ints HWG5.out (fun h => h))
    have HOW6 := hid (ownsRow_keep HOW5.out hk (fun _ _ h => h))
    have hwgx : wg ≠ x := by have := HWG5.out.lt; omega
    have T := hk.blk HB.out (fun h => h)
    clear hk hb hx HM5 HB HK5 qHB HWG5 HOW5
    have HB := hid T
    clear T
    have qHB := HB.out.k14
    go_wp2_with fail
    refine (HPK2.out _ HK6.out).mono ?_
    rintro e w7 ⟨KB, kbc, rfl, hpk, hk, hkb⟩
    rw [show v * (6 + 2 * (s : Int)) + 1 = (av : Int) from HAV.out.symm, show v * (6 + 2 * (s : Int)) + 2 + (u : Int) = ((av + 1 + u : Nat) : Int) from by have := HAV.out; omega] at hpk
    have hok := okPokes8 (av := av) (le := av + 1 + u) (l := l) K (by omega) hl.1
    have hin8 : ∀ p ∈ K.map (poke8 (av : Int) ((av + 1 + u : Nat) : Int) l), 0 ≤ p.w ∧ p.w < WW.length := by
      intro p hp
      rw [List.mem_map] at hp
      obtain ⟨q, _, rfl⟩ := hp
      unfold poke8
      split
      · simp only; omega
      · simp only; omega
    have hkl : (K.map (poke8 (av : Int) ((av + 1 + u : Nat) : Int) l)).length = K.length := by simp
    generalize K.map (poke8 (av : Int) ((av + 1 + u : Nat) : Int) l) = KK at *
    have hHB := (hk.blk HB.out (fun h => h))
    have HB7 := hid hHB
    have HK7 : Hid (Keep0 w w7) := hid (Keep0.step HK6.out hk)
    have hmz := HM6.out.mem.lt
    have haz := HM6.out.words.lt
    have hxz := HX6.out.lt
    have hlz := fun b (e : lv5.ownBlock = some b) => (HM6.out.log.lt b e).2
    have HNB : Hid (¬ ((w.heap.size = m ∨ w.heap.size = a ∨ w.heap.size = x ∨ lv5.ownBlock = some w.heap.size) ∨ w7.heap.size ≤ w.heap.size)) := hid (by
      have hb := HB.out.lt
      have := hk.size
      rintro ((h | h | h | h) | h)
      · exact HB.out.ne HM6.out.mem (by decide) h
      · exact HB.out.ne HM6.out.words (by decide) h
      · exact HB.out.ne HX6.out (by decide) h
      · exact ownBlock_ne HM6.out.log HB.out (by decide) h.symm
      · omega)
    have HNK := hid (fun b o (e : KB = some ⟨b, o, none⟩) (hb : b < w7.heap.size) => (show ¬ ((b = m ∨ b = a ∨ b = x ∨ lv5.ownBlock = some b) ∨ w7.heap.size ≤ b) from by
      have h0 := hkb b o e
      rintro ((h | h | h | h) | h)
      · omega
      · omega
      · omega
      · have := hlz b h; omega
      · omega))
    have HPKS := hid hpk
    have HLV := hid (fun b (e : lv5.ownBlock = some b) => (HM6.out.log.lt b e).1)
    have HFAR := hid (fun (w' : World) (hk : Keep (fun b => (b = m ∨ b = a ∨ b = x ∨ lv5.ownBlock = some b) ∨ w7.heap.size ≤ b) w7 w') => (show Keep0 w w' from by
      refine keep_far HK7.out hk ?_
      rintro b ((rfl | rfl | rfl | h) | h)
      · exact hzm'
      · exact hza'
      · exact hzx
      · exact HLV.out b h
      · exact Nat.le_trans HK7.out.size h))
    have HOK := hid (fun (p : Pk) (hp : p ∈ KK) => (⟨(hin8 p hp).1, (hin8 p hp).2, (hok p hp)⟩ : 0 ≤ p.w ∧ p.w < WW.length ∧ ((p.w = (av : Int) → 0 ≤ p.x ∧ p.x ≤ 4294967296) ∧ (p.w = ((av + 1 + u : Nat) : Int) → 0 ≤ p.x ∧ p.x ≤ l))))
    have HS7 := hid (show PoolSys w.heap.size m a x av (av + 1 + u) v n l 4294967296 WW.length 0 lv5 w7.heap.size 0 w7 ⟨WW, [], 0, 0, 0, 0, false⟩ from ⟨lv5, HM6.out.same hk, fun _ h => Or.inl h, hk.blk HX6.out (fun h => h), rfl, by simp, HPI.out.more (by omega), Nat.le_refl _⟩)
    clear hpk hk hkb hmz haz hxz hlz hok hin8 HM6 HX6 HB qHB HK6 HWG6 HOW6 HPI HPW HR HPK2 hHB
    go_wp2_with fail
    go_loopw [10] (fun v10 wr => ∃ i : Nat, i ≤ 100 ∧ v10 = .int .i64 i ∧ ∃ tt : PS, PoolSys w.heap.size m a x av (av + 1 + u) v n l 4294967296 WW.length 0 lv5 w7.heap.size i wr tt ∧ tt.next < 7 ∧ tt.L.length = i ∧ Keep (fun b => (b = m ∨ b = a ∨ b = x ∨ lv5.ownBlock = some b) ∨ w7.heap.size ≤ b) w7 wr) (fun v10 _ => 100 - (intOf v10).toNat)
    case atStart => exact ⟨0, Nat.zero_le _, rfl, _, HS7.out, by simp, rfl, Keep.refl _ _⟩
    case round =>
      obtain ⟨i, hi, rfl, t0, hs0, h70, hl0, hkr⟩ := hrel
      have HT0 := hid hs0
      have HKR := hid hkr
      clear hs0 hkr
      by_cases hlt : i < 100
      · go_wp2_with fail
        go_loopw [11] (fun v11 wi => ∃ j : Nat, j ≤ K.length ∧ v11 = .int .i64 j ∧ ∃ tt : PS, PoolSys w.heap.size m a x av (av + 1 + u) v n l 4294967296 WW.length 0 lv5 w7.heap.size i wi tt ∧ tt.next = t0.next ∧ tt.L = t0.L ∧ Keep (fun b => (b = m ∨ b = a ∨ b = x ∨ lv5.ownBlock = some b) ∨ w7.heap.size ≤ b) w7 wi) (fun v11 _ => K.length - (intOf v11).toNat)
        case atStart => exact ⟨0, Nat.zero_le _, rfl, t0, HT0.out, rfl, rfl, HKR.out⟩
        case round =>
          obtain ⟨j, hj, rfl, tt, hst, htn, htl, hki⟩ := hrel
          have HTT := hid hst
          have HKI := hid hki
          clear hst hki
          by_cases hjl : j < K.length
          · have hjk : j < KK.length := by omega
            obtain ⟨kb, ko, rfl, hkc⟩ := HPKS.out.cell (by omega)
            have hck := hkc j hjk
            have hpok := HOK.out KK[j] (List.getElem_mem hjk)
            generalize KK[j] = pp at *
            obtain ⟨pa, pw, px⟩ := pp
            simp only at hck hpok
            have hkz := World.block_lt_of_cell? _ _ hck.1
            simp only at hkz
            have HCL := hid (fun (wx : World) (hk : Keep (fun b => (b = m ∨ b = a ∨ b = x ∨ lv5.ownBlock = some b) ∨ w7.heap.size ≤ b) w7 wx) => (⟨(cell_old hk hkz (HNK.out kb ko rfl hkz) _).trans hck.1, (cell_old hk hkz (HNK.out kb ko rfl hkz) _).trans hck.2.1, (cell_old hk hkz (HNK.out kb ko rfl hkz) _).trans hck.2.2, Nat.lt_of_lt_of_le hkz hk.size⟩ : wx.cell? ⟨kb, ko + j * 3, none⟩ = some (i64 pa) ∧ wx.cell? ⟨kb, ko + j * 3 + 1, none⟩ = some (i64 pw) ∧ wx.cell? ⟨kb, ko + j * 3 + 2, none⟩ = some (i64 px) ∧ kb < wx.heap.size))
            clear hkc hck hkz
            obtain ⟨d0, d1, d2, dz⟩ := HCL.out _ HKI.out
            by_cases hA : pa = (i : Int)
            · have g1 : (pa == (i : Int)) = true := by simpa using hA
              clear hA
              go_wp2_with fail
              clear d0 d1 d2 dz
              apply wp_region_text (WI := fun S wx => Keep (fun b => (b = m ∨ b = a ∨ b = x ∨ lv5.ownBlock = some b) ∨ w7.heap.size ≤ b) w7 wx ∧ (S 11 = false → PoolSys w.heap.size m a x av (av + 1 + u) v n l 4294967296 WW.length 0 lv5 w7.heap.size i wx tt) ∧ (S 11 = true → PoolSys w.heap.size m a x av (av + 1 + u) v n l 4294967296 WW.length 0 lv5 w7.heap.size i wx (pPk tt pw.toNat px))) (by kernel_rfl) (by kernel_rfl)
              case hob =>
                apply Oblig.cons
                case h =>
                  intro S w1 hwi hSi hd hcl
                  apply StepOk.intro
                  intro K hK
                  have cl := HCL.out _ hwi.1
                  obtain ⟨d0, d1, d2, dz⟩ := cl
                  go_simp
                  apply hK
                  · rfl
                  · conv => (lhs; whnf)
                  · exact hwi
                simp only [put_lit, put_none, List.set_cons_succ, List.set_cons_zero]
                apply Oblig.cons
                case h =>
                  intro S w1 hwi hSi hd hcl
                  apply StepOk.intro
                  intro K hK
                  have cl := HCL.out _ hwi.1
                  obtain ⟨d0, d1, d2, dz⟩ := cl
                  go_simp
                  apply hK
                  · rfl
                  · conv => (lhs; whnf)
                  · exact hwi
                simp only [put_lit, put_none, List.set_cons_succ, List.set_cons_zero]
                apply Oblig.cons
                case h =>
                  intro S w1 hwi hSi hd hcl
                  apply StepOk.intro
                  intro K hK
                  have cl := HCL.out _ hwi.1
                  obtain ⟨d0, d1, d2, dz⟩ := cl
                  go_simp
                  apply hK
                  · rfl
                  · conv => (lhs; whnf)
                  · exact hwi
                simp only [put_lit, put_none, List.set_cons_succ, List.set_cons_zero]
                apply Oblig.cons
                case h =>
                  intro S w1 hwi hSi hd hcl
                  apply StepOk.intro
                  intro K hK
                  have cl := HCL.out _ hwi.1
                  obtain ⟨d0, d1, d2, dz⟩ := cl
                  go_simp
                  apply hK
                  · rfl
                  · conv => (lhs; whnf)
                  · exact hwi
                simp only [put_lit, put_none, List.set_cons_succ, List.set_cons_zero]
                apply Oblig.cons
                case h =>
                  intro S w1 hwi hSi hd hcl
                  apply StepOk.intro
                  intro K hK
                  have cl := HCL.out _ hwi.1
                  obtain ⟨d0, d1, d2, dz⟩ := cl
                  go_simp
                  apply hK
                  · rfl
                  · conv => (lhs; whnf)
                  · exact hwi
                simp only [put_lit, put_none, List.set_cons_succ, List.set_cons_zero]
                apply Oblig.cons
                case h =>
                  intro S w1 hwi hSi hd hcl
                  apply StepOk.intro
                  intro K hK
                  have cl := HCL.out _ hwi.1
                  obtain ⟨d0, d1, d2, dz⟩ := cl
                  go_simp
                  apply hK
                  · rfl
                  · conv => (lhs; whnf)
                  · exact hwi
                simp only [put_lit, put_none, List.set_cons_succ, List.set_cons_zero]
                apply Oblig.cons
                case h =>
                  intro S w1 hwi hSi hd hcl
                  apply StepOk.intro
                  intro K hK
                  have cl := HCL.out _ hwi.1
                  obtain ⟨d0, d1, d2, dz⟩ := cl
                  go_simp
                  apply hK
                  · rfl
                  · conv => (lhs; whnf)
                  · exact hwi
                simp only [put_lit, put_none, List.set_cons_succ, List.set_cons_zero]
                apply Oblig.cons
                case h =>
                  intro S w1 hwi hSi hd hcl
                  apply StepOk.intro
                  intro K hK
                  have cl := HCL.out _ hwi.1
                  obtain ⟨d0, d1, d2, dz⟩ := cl
                  go_simp
                  apply hK
                  · rfl
                  · conv => (lhs; whnf)
                  · exact hwi
                simp only [put_lit, put_none, List.set_cons_succ, List.set_cons_zero]
                apply Oblig.cons
                case h =>
                  intro S w1 hwi hSi hd hcl
                  apply StepOk.intro
                  intro K hK
                  have cl := HCL.out _ hwi.1
                  obtain ⟨d0, d1, d2, dz⟩ := cl
                  go_simp
                  apply hK
                  · rfl
                  · conv => (lhs; whnf)
                  · exact hwi
                simp only [put_lit, put_none, List.set_cons_succ, List.set_cons_zero]
                apply Oblig.cons
                case h =>
                  intro S w1 hwi hSi hd hcl
                  apply StepOk.intro
                  intro K hK
                  have cl := HCL.out _ hwi.1
                  obtain ⟨d0, d1, d2, dz⟩ := cl
                  go_simp
                  apply hK
                  · rfl
                  · conv => (lhs; whnf)
                  · exact hwi
                simp only [put_lit, put_none, List.set_cons_succ, List.set_cons_zero]
                apply Oblig.cons
                case h =>
                  intro S w1 hwi hSi hd hcl
                  apply StepOk.intro
                  intro K hK
                  have cl := HCL.out _ hwi.1
                  obtain ⟨d0, d1, d2, dz⟩ := cl
                  go_simp
                  apply hK
                  · rfl
                  · conv => (lhs; whnf)
                  · exact hwi
                simp only [put_lit, put_none, List.set_cons_succ, List.set_cons_zero]
                apply Oblig.cons
                case h =>
                  intro S w1 hwi hSi hd hcl
                  apply StepOk.intro
                  intro K hK
                  have cl := HCL.out _ hwi.1
                  obtain ⟨d0, d1, d2, dz⟩ := cl
                  go_simp
                  refine (sys_poke (hwi.2.1 hSi) pw px hpok.1 hpok.2.1 hpok.2.2).mono ?_
                  rintro e w2 ⟨rfl, hs2, hk2⟩
                  apply hK
                  · rfl
                  · conv => (lhs; whnf)
                  · exact ⟨hwi.1.trans hk2 (fun _ _ h => h), fun h => by simp [upd] at h, fun _ => hs2⟩
                simp only [put_lit, put_none, List.set_cons_succ, List.set_cons_zero]
                exact Oblig.nil
              case h0 =>
                exact ⟨HKI.out.drew, fun _ => sys_same HTT.out (Keep.refl _ _).drew, fun h => by cases h⟩
              case hend =>
                intro S wx hwi hall
                have HTX := hid (hwi.2.2 (hall 11 (by decide)))
                have HKX := hid hwi.1
                clear hwi hall
                go_wp2_with fail
                go_roundw
                case rel => exact ⟨j + 1, by omega, by go_num, _, HTX.out, htn, htl, HKX.out⟩
                case measure => simp [intOf]; omega
            · have g1 : (pa == (i : Int)) = false := by simpa using hA
              go_wp2_with fail
              go_roundw
              case rel => exact ⟨j + 1, by omega, by go_num, tt, HTT.out, htn, htl, HKI.out⟩
              case measure => simp [intOf]; omega
          · have h7t : tt.next < 7 := by omega
            have hlt2 : tt.L.length = i := by rw [htl]; exact hl0
            go_wp2_with fail
            refine (sys_step HTT.out (by omega) (by omega) (by omega) h7t).mono ?_
            rintro e w8 ⟨rfl, hs8, hk8⟩
            have hl8 := pNext_log (av := av) (le := av + 1 + u) (n := n) (lim := l) tt h7t
            rw [hlt2] at hl8
            have hb8 : (pStp av (av + 1 + u) n l tt).2 = decide ((pNext av (av + 1 + u) n l tt).next = 7) := rfl
            have hs8 : PoolSys w.heap.size m a x av (av + 1 + u) v n l 4294967296 WW.length 0 lv5 w7.heap.size (i + 1) w8 (pNext av (av + 1 + u) n l tt) := hs8
            rw [hb8]
            generalize pNext av (av + 1 + u) n l tt = t8 at *
            have HT8 := hid hs8
            have HK8 := hid (HKI.out.trans hk8 (fun _ _ h => h))
            have hl8b : t8.L.length = i + 1 := hl8
            clear hs8 hk8 hb8 HTT HKI HT0 HKR hl8 htn htl
            have hm8 := HT8.out
            obtain ⟨lv8, hm8, _, _, hlen8, _, hpi8, _⟩ := hm8
            have HM8 := hid hm8
            have hwa := hpi8.wa
            have hwl := hpi8.wl
            have hnx8 := hpi8.nx
            clear hm8 hpi8
            go_wp2_with fail
            refine (mem_Words HM8.out (by rw [hlen8]; omega)).mono ?_
            rintro e wx0 ⟨gb, gc, rfl, hi2, hk, _⟩
            rw [hlen8]
            have HWX := hid hi2
            have HMX := hid (HM8.out.same hk)
            have HTX := hid (sys_same HT8.out hk)
            have HKX0 := hid (HK8.out.trans (hk.mono (T := fun b => (b = m ∨ b = a ∨ b = x ∨ lv5.ownBlock = some b) ∨ w7.heap.size ≤ b) (fun _ h => h.elim)) (fun _ _ h => h))
            have HBX := hid (HKX0.out.blk HB7.out HNB.out)
            have HLX := hid hl8b
            have ib1 : av < WW.length := by omega
            have ib2 : av + 1 + u < WW.length := by omega
            have ib3 : (0 : Int) ≤ (av : Int) + 1 + (u : Int) := by omega
            have ib4 : (av : Int) + 1 + (u : Int) < (WW.length : Int) := by omega
            have ib5 : ((av : Int) + 1 + (u : Int)).toNat = av + 1 + u := by omega
            have yi : IntKind.i64.wrap ((i : Int) + 1) = (i : Int) + 1 := IntWalk.i64_in _ (by omega)
            have g1 : ¬ rd t8.W av < 0 := by omega
            have g2 : ¬ rd t8.W (av + 1 + u) < 0 := by omega
            have g3 : ¬ l < rd t8.W (av + 1 + u) := by omega
            clear hi2 hk HM8 HT8 HK8
            go_wp2_with fail
            apply wp_region_free (WI := fun S gh wx => Keep0 wx0 wx ∧ GWI (bndD (i + 1)) S gh wx) (by kernel_rfl) (by kernel_rfl)
            case hob =>
              apply ObligF.fixed
              case h =>
                intro S gh w1 hwi hSi hd hcl
                apply StepOk.intro
                intro K hK
                have cb := (hwi.1.blk HBX.out (fun h => h)).k14
                have c1 := (hwi.1.ints HWX.out (fun h => h)).cell av (by omega)
                have c2 := (hwi.1.ints HWX.out (fun h => h)).cell (av + 1 + u) (by omega)
                have zw := (hwi.1.ints HWX.out (fun h => h)).lt
                go_simp
                apply hK
                · rfl
                · conv => (lhs; whnf)
                · exact ⟨hwi.1, GWI.fixed hwi.2 trivial⟩
              simp only [put_lit, put_none, List.set_cons_succ, List.set_cons_zero]
              apply ObligF.fixed
              case h =>
                intro S gh w1 hwi hSi hd hcl
                apply StepOk.intro
                intro K hK
                have cb := (hwi.1.blk HBX.out (fun h => h)).k14
                have c1 := (hwi.1.ints HWX.out (fun h => h)).cell av (by omega)
                have c2 := (hwi.1.ints HWX.out (fun h => h)).cell (av + 1 + u) (by omega)
                have zw := (hwi.1.ints HWX.out (fun h => h)).lt
                go_simp
                apply hK
                · rfl
                · conv => (lhs; whnf)
                · exact ⟨hwi.1, GWI.fixed hwi.2 trivial⟩
              simp only [put_lit, put_none, List.set_cons_succ, List.set_cons_zero]
              apply ObligF.fixed
              case h =>
                intro S gh w1 hwi hSi hd hcl
                apply StepOk.intro
                intro K hK
                have cb := (hwi.1.blk HBX.out (fun h => h)).k14
                have c1 := (hwi.1.ints HWX.out (fun h => h)).cell av (by omega)
                have c2 := (hwi.1.ints HWX.out (fun h => h)).cell (av + 1 + u) (by omega)
                have zw := (hwi.1.ints HWX.out (fun h => h)).lt
                go_simp
                apply hK
                · rfl
                · conv => (lhs; whnf)
                · exact ⟨hwi.1, GWI.fixed hwi.2 trivial⟩
              simp only [put_lit, put_none, List.set_cons_succ, List.set_cons_zero]
              apply ObligF.fixed
              case h =>
                intro S gh w1 hwi hSi hd hcl
                apply StepOk.intro
                intro K hK
                have cb := (hwi.1.blk HBX.out (fun h => h)).k14
                have c1 := (hwi.1.ints HWX.out (fun h => h)).cell av (by omega)
                have c2 := (hwi.1.ints HWX.out (fun h => h)).cell (av + 1 + u) (by omega)
                have zw := (hwi.1.ints HWX.out (fun h => h)).lt
                go_simp
                apply hK
                · rfl
                · conv => (lhs; whnf)
                · exact ⟨hwi.1, GWI.fixed hwi.2 trivial⟩
              simp only [put_lit, put_none, List.set_cons_succ, List.set_cons_zero]
              apply ObligF.fixed
              case h =>
                intro S gh w1 hwi hSi hd hcl
                apply StepOk.intro
                intro K hK
                have cb := (hwi.1.blk HBX.out (fun h => h)).k14
                have c1 := (hwi.1.ints HWX.out (fun h => h)).cell av (by omega)
                have c2 := (hwi.1.ints HWX.out (fun h => h)).cell (av + 1 + u) (by omega)
                have zw := (hwi.1.ints HWX.out (fun h => h)).lt
                go_simp
                refine (show Calls Try.prog 39 #[.agg #[i64 t, i64 s, i64 g, i64 l, i64 r, i64 k, .slice PA P.length pc, .slice LA L.length lc]] w1 (Ret (i64 (WW.length : Int)) w1) from by have h := plan_Size t (s : Int) g l r k PA P.length pc LA L.length lc w1 hs.1 hs.2 (by omega) (by omega) (by omega); rw [HN.out] at h; exact h).mono ?_
                rintro e w2 ⟨rfl, hk⟩
                apply hK
                · rfl
                · conv => (lhs; whnf)
                · exact ⟨Keep0.step hwi.1 hk, GWI.fixed (hwi.2.keep bndD_stable hk) trivial⟩
              simp only [put_lit, put_none, List.set_cons_succ, List.set_cons_zero]
              apply ObligF.fixed
              case h =>
                intro S gh w1 hwi hSi hd hcl
                apply StepOk.intro
                intro K hK
                have cb := (hwi.1.blk HBX.out (fun h => h)).k14
                have c1 := (hwi.1.ints HWX.out (fun h => h)).cell av (by omega)
                have c2 := (hwi.1.ints HWX.out (fun h => h)).cell (av + 1 + u) (by omega)
                have zw := (hwi.1.ints HWX.out (fun h => h)).lt
                go_simp
                apply hK
                · rfl
                · conv => (lhs; whnf)
                · exact ⟨hwi.1, GWI.fixed hwi.2 trivial⟩
              simp only [put_lit, put_none, List.set_cons_succ, List.set_cons_zero]
              apply ObligF.fixed
              case h =>
                intro S gh w1 hwi hSi hd hcl
                apply StepOk.intro
                intro K hK
                have cb := (hwi.1.blk HBX.out (fun h => h)).k14
                have c1 := (hwi.1.ints HWX.out (fun h => h)).cell av (by omega)
                have c2 := (hwi.1.ints HWX.out (fun h => h)).cell (av + 1 + u) (by omega)
                have zw := (hwi.1.ints HWX.out (fun h => h)).lt
                go_simp
                apply hK
                · rfl
                · conv => (lhs; whnf)
                · exact ⟨hwi.1, GWI.fixed hwi.2 trivial⟩
              simp only [put_lit, put_none, List.set_cons_succ, List.set_cons_zero]
              apply ObligF.fixed
              case h =>
                intro S gh w1 hwi hSi hd hcl
                apply StepOk.intro
                intro K hK
                have cb := (hwi.1.blk HBX.out (fun h => h)).k14
                have c1 := (hwi.1.ints HWX.out (fun h => h)).cell av (by omega)
                have c2 := (hwi.1.ints HWX.out (fun h => h)).cell (av + 1 + u) (by omega)
                have zw := (hwi.1.ints HWX.out (fun h => h)).lt
                go_simp
                apply hK
                · rfl
                · conv => (lhs; whnf)
                · exact ⟨hwi.1, GWI.fixed hwi.2 trivial⟩
              simp only [put_lit, put_none, List.set_cons_succ, List.set_cons_zero]
              apply ObligF.free
              case h =>
                intro S gh w1 hwi hSi hd hcl
                apply StepG.intro
                intro K hK
                have cb := (hwi.1.blk HBX.out (fun h => h)).k14
                have c1 := (hwi.1.ints HWX.out (fun h => h)).cell av (by omega)
                have c2 := (hwi.1.ints HWX.out (fun h => h)).cell (av + 1 + u) (by omega)
                have zw := (hwi.1.ints HWX.out (fun h => h)).lt
                go_simp
                refine (mem_Log (HMX.out.same hwi.1) (by rw [HLX.out]; omega)).mono ?_
                rintro e w2 ⟨A2, c2, rfl, _, hk⟩
                rw [HLX.out]
                apply hK
                · rfl
                · exact ⟨Keep0.step hwi.1 hk, GWI.free (hwi.2.keep bndD_stable hk) ⟨_, c2, rfl⟩⟩
              simp only [put_lit, put_none, List.set_cons_succ, List.set_cons_zero]
              apply ObligF.fixed
              case h =>
                intro S gh w1 hwi hSi hd hcl
                apply StepOk.intro
                intro K hK
                have cb := (hwi.1.blk HBX.out (fun h => h)).k14
                have c1 := (hwi.1.ints HWX.out (fun h => h)).cell av (by omega)
                have c2 := (hwi.1.ints HWX.out (fun h => h)).cell (av + 1 + u) (by omega)
                have zw := (hwi.1.ints HWX.out (fun h => h)).lt
                obtain ⟨A1, c1, e1⟩ := hwi.2 8 (hd ⟨8, .data⟩ (by simp) rfl)
                rw [e1]
                go_simp
                apply hK
                · rfl
                · conv => (lhs; whnf)
                · exact ⟨hwi.1, GWI.fixed hwi.2 trivial⟩
              simp only [put_lit, put_none, List.set_cons_succ, List.set_cons_zero]
              apply ObligF.fixed
              case h =>
                intro S gh w1 hwi hSi hd hcl
                apply StepOk.intro
                intro K hK
                have cb := (hwi.1.blk HBX.out (fun h => h)).k14
                have c1 := (hwi.1.ints HWX.out (fun h => h)).cell av (by omega)
                have c2 := (hwi.1.ints HWX.out (fun h => h)).cell (av + 1 + u) (by omega)
                have zw := (hwi.1.ints HWX.out (fun h => h)).lt
                go_simp
                apply hK
                · rfl
                · conv => (lhs; whnf)
                · exact ⟨hwi.1, GWI.fixed hwi.2 trivial⟩
              simp only [put_lit, put_none, List.set_cons_succ, List.set_cons_zero]
              apply ObligF.fixed
              case h =>
                intro S gh w1 hwi hSi hd hcl
                apply StepOk.intro
                intro K hK
                have cb := (hwi.1.blk HBX.out (fun h => h)).k14
                have c1 := (hwi.1.ints HWX.out (fun h => h)).cell av (by omega)
                have c2 := (hwi.1.ints HWX.out (fun h => h)).cell (av + 1 + u) (by omega)
                have zw := (hwi.1.ints HWX.out (fun h => h)).lt
                go_simp
                apply hK
                · rfl
                · conv => (lhs; whnf)
                · exact ⟨hwi.1, GWI.fixed hwi.2 trivial⟩
              simp only [put_lit, put_none, List.set_cons_succ, List.set_cons_zero]
              apply ObligF.fixed
              case h =>
                intro S gh w1 hwi hSi hd hcl
                apply StepOk.intro
                intro K hK
                have cb := (hwi.1.blk HBX.out (fun h => h)).k14
                have c1 := (hwi.1.ints HWX.out (fun h => h)).cell av (by omega)
                have c2 := (hwi.1.ints HWX.out (fun h => h)).cell (av + 1 + u) (by omega)
                have zw := (hwi.1.ints HWX.out (fun h => h)).lt
                go_simp
                apply hK
                · rfl
                · conv => (lhs; whnf)
                · exact ⟨hwi.1, GWI.fixed hwi.2 trivial⟩
              simp only [put_lit, put_none, List.set_cons_succ, List.set_cons_zero]
              apply ObligF.fixed
              case h =>
                intro S gh w1 hwi hSi hd hcl
                apply StepOk.intro
                intro K hK
                have cb := (hwi.1.blk HBX.out (fun h => h)).k14
                have c1 := (hwi.1.ints HWX.out (fun h => h)).cell av (by omega)
                have c2 := (hwi.1.ints HWX.out (fun h => h)).cell (av + 1 + u) (by omega)
                have zw := (hwi.1.ints HWX.out (fun h => h)).lt
                go_simp
                apply hK
                · rfl
                · conv => (lhs; whnf)
                · exact ⟨hwi.1, GWI.fixed hwi.2 trivial⟩
              simp only [put_lit, put_none, List.set_cons_succ, List.set_cons_zero]
              apply ObligF.fixed
              case h =>
                intro S gh w1 hwi hSi hd hcl
                apply StepOk.intro
                intro K hK
                have cb := (hwi.1.blk HBX.out (fun h => h)).k14
                have c1 := (hwi.1.ints HWX.out (fun h => h)).cell av (by omega)
                have c2 := (hwi.1.ints HWX.out (fun h => h)).cell (av + 1 + u) (by omega)
                have zw := (hwi.1.ints HWX.out (fun h => h)).lt
                go_simp
                apply hK
                · rfl
                · conv => (lhs; whnf)
                · exact ⟨hwi.1, GWI.fixed hwi.2 trivial⟩
              simp only [put_lit, put_none, List.set_cons_succ, List.set_cons_zero]
              apply ObligF.fixed
              case h =>
                intro S gh w1 hwi hSi hd hcl
                apply StepOk.intro
                intro K hK
                have cb := (hwi.1.blk HBX.out (fun h => h)).k14
                have c1 := (hwi.1.ints HWX.out (fun h => h)).cell av (by omega)
                have c2 := (hwi.1.ints HWX.out (fun h => h)).cell (av + 1 + u) (by omega)
                have zw := (hwi.1.ints HWX.out (fun h => h)).lt
                go_simp
                apply hK
                · rfl
                · conv => (lhs; whnf)
                · exact ⟨hwi.1, GWI.fixed hwi.2 trivial⟩
              simp only [put_lit, put_none, List.set_cons_succ, List.set_cons_zero]
              apply ObligF.fixed
              case h =>
                intro S gh w1 hwi hSi hd hcl
                apply StepOk.intro
                intro K hK
                have cb := (hwi.1.blk HBX.out (fun h => h)).k14
                have c1 := (hwi.1.ints HWX.out (fun h => h)).cell av (by omega)
                have c2 := (hwi.1.ints HWX.out (fun h => h)).cell (av + 1 + u) (by omega)
                have zw := (hwi.1.ints HWX.out (fun h => h)).lt
                go_simp
                apply hK
                · rfl
                · conv => (lhs; whnf)
                · exact ⟨hwi.1, GWI.fixed hwi.2 trivial⟩
              simp only [put_lit, put_none, List.set_cons_succ, List.set_cons_zero]
              apply ObligF.fixed
              case h =>
                intro S gh w1 hwi hSi hd hcl
                apply StepOk.intro
                intro K hK
                have cb := (hwi.1.blk HBX.out (fun h => h)).k14
                have c1 := (hwi.1.ints HWX.out (fun h => h)).cell av (by omega)
                have c2 := (hwi.1.ints HWX.out (fun h => h)).cell (av + 1 + u) (by omega)
                have zw := (hwi.1.ints HWX.out (fun h => h)).lt
                go_simp
                apply hK
                · rfl
                · conv => (lhs; whnf)
                · exact ⟨hwi.1, GWI.fixed hwi.2 trivial⟩
              simp only [put_lit, put_none, List.set_cons_succ, List.set_cons_zero]
              apply ObligF.fixed
              case h =>
                intro S gh w1 hwi hSi hd hcl
                apply StepOk.intro
                intro K hK
                have cb := (hwi.1.blk HBX.out (fun h => h)).k14
                have c1 := (hwi.1.ints HWX.out (fun h => h)).cell av (by omega)
                have c2 := (hwi.1.ints HWX.out (fun h => h)).cell (av + 1 + u) (by omega)
                have zw := (hwi.1.ints HWX.out (fun h => h)).lt
                go_simp
                apply hK
                · rfl
                · conv => (lhs; whnf)
                · exact ⟨hwi.1, GWI.fixed hwi.2 trivial⟩
              simp only [put_lit, put_none, List.set_cons_succ, List.set_cons_zero]
              apply ObligF.fixed
              case h =>
                intro S gh w1 hwi hSi hd hcl
                apply StepOk.intro
                intro K hK
                have cb := (hwi.1.blk HBX.out (fun h => h)).k14
                have c1 := (hwi.1.ints HWX.out (fun h => h)).cell av (by omega)
                have c2 := (hwi.1.ints HWX.out (fun h => h)).cell (av + 1 + u) (by omega)
                have zw := (hwi.1.ints HWX.out (fun h => h)).lt
                go_simp
                refine (show Calls Try.prog 25 #[.agg #[i64 t, i64 s, i64 g, i64 l, i64 r, i64 k, .slice PA P.length pc, .slice LA L.length lc], i64 v] w1 (Ret (i64 av) w1) from by have h := ref_Avail t (s : Int) g l r k PA P.length pc LA L.length lc v w1 hs.1 hs.2 hv0 (by omega); rw [← HAV.out] at h; exact h).mono ?_
                rintro e w2 ⟨rfl, hk⟩
                apply hK
                · rfl
                · conv => (lhs; whnf)
                · exact ⟨Keep0.step hwi.1 hk, GWI.fixed (hwi.2.keep bndD_stable hk) trivial⟩
              simp only [put_lit, put_none, List.set_cons_succ, List.set_cons_zero]
              apply ObligF.fixed
              case h =>
                intro S gh w1 hwi hSi hd hcl
                apply StepOk.intro
                intro K hK
                have cb := (hwi.1.blk HBX.out (fun h => h)).k14
                have c1 := (hwi.1.ints HWX.out (fun h => h)).cell av (by omega)
                have c2 := (hwi.1.ints HWX.out (fun h => h)).cell (av + 1 + u) (by omega)
                have zw := (hwi.1.ints HWX.out (fun h => h)).lt
                go_simp
                apply hK
                · rfl
                · conv => (lhs; whnf)
                · exact ⟨hwi.1, GWI.fixed hwi.2 trivial⟩
              simp only [put_lit, put_none, List.set_cons_succ, List.set_cons_zero]
              apply ObligF.fixed
              case h =>
                intro S gh w1 hwi hSi hd hcl
                apply StepOk.intro
                intro K hK
                have cb := (hwi.1.blk HBX.out (fun h => h)).k14
                have c1 := (hwi.1.ints HWX.out (fun h => h)).cell av (by omega)
                have c2 := (hwi.1.ints HWX.out (fun h => h)).cell (av + 1 + u) (by omega)
                have zw := (hwi.1.ints HWX.out (fun h => h)).lt
                go_simp
                apply hK
                · rfl
                · conv => (lhs; whnf)
                · exact ⟨hwi.1, GWI.fixed hwi.2 trivial⟩
              simp only [put_lit, put_none, List.set_cons_succ, List.set_cons_zero]
              apply ObligF.fixed
              case h =>
                intro S gh w1 hwi hSi hd hcl
                apply StepOk.intro
                intro K hK
                have cb := (hwi.1.blk HBX.out (fun h => h)).k14
                have c1 := (hwi.1.ints HWX.out (fun h => h)).cell av (by omega)
                have c2 := (hwi.1.ints HWX.out (fun h => h)).cell (av + 1 + u) (by omega)
                have zw := (hwi.1.ints HWX.out (fun h => h)).lt
                go_simp
                apply hK
                · rfl
                · conv => (lhs; whnf)
                · exact ⟨hwi.1, GWI.fixed hwi.2 trivial⟩
              simp only [put_lit, put_none, List.set_cons_succ, List.set_cons_zero]
              apply ObligF.fixed
              case h =>
                intro S gh w1 hwi hSi hd hcl
                apply StepOk.intro
                intro K hK
                have cb := (hwi.1.blk HBX.out (fun h => h)).k14
                have c1 := (hwi.1.ints HWX.out (fun h => h)).cell av (by omega)
                have c2 := (hwi.1.ints HWX.out (fun h => h)).cell (av + 1 + u) (by omega)
                have zw := (hwi.1.ints HWX.out (fun h => h)).lt
                go_simp
                apply hK
                · rfl
                · conv => (lhs; whnf)
                · exact ⟨hwi.1, GWI.fixed hwi.2 trivial⟩
              simp only [put_lit, put_none, List.set_cons_succ, List.set_cons_zero]
              apply ObligF.fixed
              case h =>
                intro S gh w1 hwi hSi hd hcl
                apply StepOk.intro
                intro K hK
                have cb := (hwi.1.blk HBX.out (fun h => h)).k14
                have c1 := (hwi.1.ints HWX.out (fun h => h)).cell av (by omega)
                have c2 := (hwi.1.ints HWX.out (fun h => h)).cell (av + 1 + u) (by omega)
                have zw := (hwi.1.ints HWX.out (fun h => h)).lt
                go_simp
                apply hK
                · rfl
                · conv => (lhs; whnf)
                · exact ⟨hwi.1, GWI.fixed hwi.2 trivial⟩
              simp only [put_lit, put_none, List.set_cons_succ, List.set_cons_zero]
              apply ObligF.fixed
              case h =>
                intro S gh w1 hwi hSi hd hcl
                apply StepOk.intro
                intro K hK
                have cb := (hwi.1.blk HBX.out (fun h => h)).k14
                have c1 := (hwi.1.ints HWX.out (fun h => h)).cell av (by omega)
                have c2 := (hwi.1.ints HWX.out (fun h => h)).cell (av + 1 + u) (by omega)
                have zw := (hwi.1.ints HWX.out (fun h => h)).lt
                go_simp
                apply hK
                · rfl
                · conv => (lhs; whnf)
                · exact ⟨hwi.1, GWI.fixed hwi.2 trivial⟩
              simp only [put_lit, put_none, List.set_cons_succ, List.set_cons_zero]
              apply ObligF.fixed
              case h =>
                intro S gh w1 hwi hSi hd hcl
                apply StepOk.intro
                intro K hK
                have cb := (hwi.1.blk HBX.out (fun h => h)).k14
                have c1 := (hwi.1.ints HWX.out (fun h => h)).cell av (by omega)
                have c2 := (hwi.1.ints HWX.out (fun h => h)).cell (av + 1 + u) (by omega)
                have zw := (hwi.1.ints HWX.out (fun h => h)).lt
                go_simp
                apply hK
                · rfl
                · conv => (lhs; whnf)
                · exact ⟨hwi.1, GWI.fixed hwi.2 trivial⟩
              simp only [put_lit, put_none, List.set_cons_succ, List.set_cons_zero]
              apply ObligF.fixed
              case h =>
                intro S gh w1 hwi hSi hd hcl
                apply StepOk.intro
                intro K hK
                have cb := (hwi.1.blk HBX.out (fun h => h)).k14
                have c1 := (hwi.1.ints HWX.out (fun h => h)).cell av (by omega)
                have c2 := (hwi.1.ints HWX.out (fun h => h)).cell (av + 1 + u) (by omega)
                have zw := (hwi.1.ints HWX.out (fun h => h)).lt
                go_simp
                apply hK
                · rfl
                · conv => (lhs; whnf)
                · exact ⟨hwi.1, GWI.fixed hwi.2 trivial⟩
              simp only [put_lit, put_none, List.set_cons_succ, List.set_cons_zero]
              apply ObligF.fixed
              case h =>
                intro S gh w1 hwi hSi hd hcl
                apply StepOk.intro
                intro K hK
                have cb := (hwi.1.blk HBX.out (fun h => h)).k14
                have c1 := (hwi.1.ints HWX.out (fun h => h)).cell av (by omega)
                have c2 := (hwi.1.ints HWX.out (fun h => h)).cell (av + 1 + u) (by omega)
                have zw := (hwi.1.ints HWX.out (fun h => h)).lt
                go_simp
                apply hK
                · rfl
                · conv => (lhs; whnf)
                · exact ⟨hwi.1, GWI.fixed hwi.2 trivial⟩
              simp only [put_lit, put_none, List.set_cons_succ, List.set_cons_zero]
              apply ObligF.fixed
              case h =>
                intro S gh w1 hwi hSi hd hcl
                apply StepOk.intro
                intro K hK
                have cb := (hwi.1.blk HBX.out (fun h => h)).k14
                have c1 := (hwi.1.ints HWX.out (fun h => h)).cell av (by omega)
                have c2 := (hwi.1.ints HWX.out (fun h => h)).cell (av + 1 + u) (by omega)
                have zw := (hwi.1.ints HWX.out (fun h => h)).lt
                go_simp
                apply hK
                · rfl
                · conv => (lhs; whnf)
                · exact ⟨hwi.1, GWI.fixed hwi.2 trivial⟩
              simp only [put_lit, put_none, List.set_cons_succ, List.set_cons_zero]
              apply ObligF.fixed
              case h =>
                intro S gh w1 hwi hSi hd hcl
                apply StepOk.intro
                intro K hK
                have cb := (hwi.1.blk HBX.out (fun h => h)).k14
                have c1 := (hwi.1.ints HWX.out (fun h => h)).cell av (by omega)
                have c2 := (hwi.1.ints HWX.out (fun h => h)).cell (av + 1 + u) (by omega)
                have zw := (hwi.1.ints HWX.out (fun h => h)).lt
                go_simp
                refine (show Calls Try.prog 24 #[.agg #[i64 t, i64 s, i64 g, i64 l, i64 r, i64 k, .slice PA P.length pc, .slice LA L.length lc], i64 v, i64 u] w1 (Ret (i64 ((av + 1 + u : Nat) : Int)) w1) from by have h := ref_Lease t (s : Int) g l r k PA P.length pc LA L.length lc v (u : Int) w1 hs.1 hs.2 hv0 (by omega) (by omega) (by omega); rw [show v * (6 + 2 * (s : Int)) + 2 + (u : Int) = ((av + 1 + u : Nat) : Int) from by have := HAV.out; omega] at h; exact h).mono ?_
                rintro e w2 ⟨rfl, hk⟩
                apply hK
                · rfl
                · conv => (lhs; whnf)
                · exact ⟨Keep0.step hwi.1 hk, GWI.fixed (hwi.2.keep bndD_stable hk) trivial⟩
              simp only [put_lit, put_none, List.set_cons_succ, List.set_cons_zero]
              apply ObligF.fixed
              case h =>
                intro S gh w1 hwi hSi hd hcl
                apply StepOk.intro
                intro K hK
                have cb := (hwi.1.blk HBX.out (fun h => h)).k14
                have c1 := (hwi.1.ints HWX.out (fun h => h)).cell av (by omega)
                have c2 := (hwi.1.ints HWX.out (fun h => h)).cell (av + 1 + u) (by omega)
                have zw := (hwi.1.ints HWX.out (fun h => h)).lt
                go_simp
                apply hK
                · rfl
                · conv => (lhs; whnf)
                · exact ⟨hwi.1, GWI.fixed hwi.2 trivial⟩
              simp only [put_lit, put_none, List.set_cons_succ, List.set_cons_zero]
              apply ObligF.fixed
              case h =>
                intro S gh w1 hwi hSi hd hcl
                apply StepOk.intro
                intro K hK
                have cb := (hwi.1.blk HBX.out (fun h => h)).k14
                have c1 := (hwi.1.ints HWX.out (fun h => h)).cell av (by omega)
                have c2 := (hwi.1.ints HWX.out (fun h => h)).cell (av + 1 + u) (by omega)
                have zw := (hwi.1.ints HWX.out (fun h => h)).lt
                go_simp
                apply hK
                · rfl
                · conv => (lhs; whnf)
                · exact ⟨hwi.1, GWI.fixed hwi.2 trivial⟩
              simp only [put_lit, put_none, List.set_cons_succ, List.set_cons_zero]
              apply ObligF.fixed
              case h =>
                intro S gh w1 hwi hSi hd hcl
                apply StepOk.intro
                intro K hK
                have cb := (hwi.1.blk HBX.out (fun h => h)).k14
                have c1 := (hwi.1.ints HWX.out (fun h => h)).cell av (by omega)
                have c2 := (hwi.1.ints HWX.out (fun h => h)).cell (av + 1 + u) (by omega)
                have zw := (hwi.1.ints HWX.out (fun h => h)).lt
                go_simp
                apply hK
                · rfl
                · conv => (lhs; whnf)
                · exact ⟨hwi.1, GWI.fixed hwi.2 trivial⟩
              simp only [put_lit, put_none, List.set_cons_succ, List.set_cons_zero]
              apply ObligF.fixed
              case h =>
                intro S gh w1 hwi hSi hd hcl
                apply StepOk.intro
                intro K hK
                have cb := (hwi.1.blk HBX.out (fun h => h)).k14
                have c1 := (hwi.1.ints HWX.out (fun h => h)).cell av (by omega)
                have c2 := (hwi.1.ints HWX.out (fun h => h)).cell (av + 1 + u) (by omega)
                have zw := (hwi.1.ints HWX.out (fun h => h)).lt
                go_simp
                apply hK
                · rfl
                · conv => (lhs; whnf)
                · exact ⟨hwi.1, GWI.fixed hwi.2 trivial⟩
              simp only [put_lit, put_none, List.set_cons_succ, List.set_cons_zero]
              apply ObligF.fixed
              case h =>
                intro S gh w1 hwi hSi hd hcl
                apply StepOk.intro
                intro K hK
                have cb := (hwi.1.blk HBX.out (fun h => h)).k14
                have c1 := (hwi.1.ints HWX.out (fun h => h)).cell av (by omega)
                have c2 := (hwi.1.ints HWX.out (fun h => h)).cell (av + 1 + u) (by omega)
                have zw := (hwi.1.ints HWX.out (fun h => h)).lt
                go_simp
                apply hK
                · rfl
                · conv => (lhs; whnf)
                · exact ⟨hwi.1, GWI.fixed hwi.2 trivial⟩
              simp only [put_lit, put_none, List.set_cons_succ, List.set_cons_zero]
              apply ObligF.fixed
              case h =>
                intro S gh w1 hwi hSi hd hcl
                apply StepOk.intro
                intro K hK
                have cb := (hwi.1.blk HBX.out (fun h => h)).k14
                have c1 := (hwi.1.ints HWX.out (fun h => h)).cell av (by omega)
                have c2 := (hwi.1.ints HWX.out (fun h => h)).cell (av + 1 + u) (by omega)
                have zw := (hwi.1.ints HWX.out (fun h => h)).lt
                go_simp
                apply hK
                · rfl
                · conv => (lhs; whnf)
                · exact ⟨hwi.1, GWI.fixed hwi.2 trivial⟩
              simp only [put_lit, put_none, List.set_cons_succ, List.set_cons_zero]
              apply ObligF.fixed
              case h =>
                intro S gh w1 hwi hSi hd hcl
                apply StepOk.intro
                intro K hK
                have cb := (hwi.1.blk HBX.out (fun h => h)).k14
                have c1 := (hwi.1.ints HWX.out (fun h => h)).cell av (by omega)
                have c2 := (hwi.1.ints HWX.out (fun h => h)).cell (av + 1 + u) (by omega)
                have zw := (hwi.1.ints HWX.out (fun h => h)).lt
                go_simp
                apply hK
                · rfl
                · conv => (lhs; whnf)
                · exact ⟨hwi.1, GWI.fixed hwi.2 trivial⟩
              simp only [put_lit, put_none, List.set_cons_succ, List.set_cons_zero]
              apply ObligF.fixed
              case h =>
                intro S gh w1 hwi hSi hd hcl
                apply StepOk.intro
                intro K hK
                have cb := (hwi.1.blk HBX.out (fun h => h)).k14
                have c1 := (hwi.1.ints HWX.out (fun h => h)).cell av (by omega)
                have c2 := (hwi.1.ints HWX.out (fun h => h)).cell (av + 1 + u) (by omega)
                have zw := (hwi.1.ints HWX.out (fun h => h)).lt
                go_simp
                apply hK
                · rfl
                · conv => (lhs; whnf)
                · exact ⟨hwi.1, GWI.fixed hwi.2 trivial⟩
              simp only [put_lit, put_none, List.set_cons_succ, List.set_cons_zero]
              apply ObligF.fixed
              case h =>
                intro S gh w1 hwi hSi hd hcl
                apply StepOk.intro
                intro K hK
                have cb := (hwi.1.blk HBX.out (fun h => h)).k14
                have c1 := (hwi.1.ints HWX.out (fun h => h)).cell av (by omega)
                have c2 := (hwi.1.ints HWX.out (fun h => h)).cell (av + 1 + u) (by omega)
                have zw := (hwi.1.ints HWX.out (fun h => h)).lt
                go_simp
                apply hK
                · rfl
                · conv => (lhs; whnf)
                · exact ⟨hwi.1, GWI.fixed hwi.2 trivial⟩
              simp only [put_lit, put_none, List.set_cons_succ, List.set_cons_zero]
              apply ObligF.fixed
              case h =>
                intro S gh w1 hwi hSi hd hcl
                apply StepOk.intro
                intro K hK
                have cb := (hwi.1.blk HBX.out (fun h => h)).k14
                have c1 := (hwi.1.ints HWX.out (fun h => h)).cell av (by omega)
                have c2 := (hwi.1.ints HWX.out (fun h => h)).cell (av + 1 + u) (by omega)
                have zw := (hwi.1.ints HWX.out (fun h => h)).lt
                go_simp
                apply hK
                · rfl
                · conv => (lhs; whnf)
                · exact ⟨hwi.1, GWI.fixed hwi.2 trivial⟩
              simp only [put_lit, put_none, List.set_cons_succ, List.set_cons_zero]
              apply ObligF.fixed
              case h =>
                intro S gh w1 hwi hSi hd hcl
                apply StepOk.intro
                intro K hK
                have cb := (hwi.1.blk HBX.out (fun h => h)).k14
                have c1 := (hwi.1.ints HWX.out (fun h => h)).cell av (by omega)
                have c2 := (hwi.1.ints HWX.out (fun h => h)).cell (av + 1 + u) (by omega)
                have zw := (hwi.1.ints HWX.out (fun h => h)).lt
                go_simp
                refine (show Calls Try.prog 24 #[.agg #[i64 t, i64 s, i64 g, i64 l, i64 r, i64 k, .slice PA P.length pc, .slice LA L.length lc], i64 v, i64 u] w1 (Ret (i64 ((av + 1 + u : Nat) : Int)) w1) from by have h := ref_Lease t (s : Int) g l r k PA P.length pc LA L.length lc v (u : Int) w1 hs.1 hs.2 hv0 (by omega) (by omega) (by omega); rw [show v * (6 + 2 * (s : Int)) + 2 + (u : Int) = ((av + 1 + u : Nat) : Int) from by have := HAV.out; omega] at h; exact h).mono ?_
                rintro e w2 ⟨rfl, hk⟩
                apply hK
                · rfl
                · conv => (lhs; whnf)
                · exact ⟨Keep0.step hwi.1 hk, GWI.fixed (hwi.2.keep bndD_stable hk) trivial⟩
              simp only [put_lit, put_none, List.set_cons_succ, List.set_cons_zero]
              apply ObligF.fixed
              case h =>
                intro S gh w1 hwi hSi hd hcl
                apply StepOk.intro
                intro K hK
                have cb := (hwi.1.blk HBX.out (fun h => h)).k14
                have c1 := (hwi.1.ints HWX.out (fun h => h)).cell av (by omega)
                have c2 := (hwi.1.ints HWX.out (fun h => h)).cell (av + 1 + u) (by omega)
                have zw := (hwi.1.ints HWX.out (fun h => h)).lt
                go_simp
                apply hK
                · rfl
                · conv => (lhs; whnf)
                · exact ⟨hwi.1, GWI.fixed hwi.2 trivial⟩
              simp only [put_lit, put_none, List.set_cons_succ, List.set_cons_zero]
              apply ObligF.fixed
              case h =>
                intro S gh w1 hwi hSi hd hcl
                apply StepOk.intro
                intro K hK
                have cb := (hwi.1.blk HBX.out (fun h => h)).k14
                have c1 := (hwi.1.ints HWX.out (fun h => h)).cell av (by omega)
                have c2 := (hwi.1.ints HWX.out (fun h => h)).cell (av + 1 + u) (by omega)
                have zw := (hwi.1.ints HWX.out (fun h => h)).lt
                go_simp
                apply hK
                · rfl
                · conv => (lhs; whnf)
                · exact ⟨hwi.1, GWI.fixed hwi.2 trivial⟩
              simp only [put_lit, put_none, List.set_cons_succ, List.set_cons_zero]
              apply ObligF.fixed
              case h =>
                intro S gh w1 hwi hSi hd hcl
                apply StepOk.intro
                intro K hK
                have cb := (hwi.1.blk HBX.out (fun h => h)).k14
                have c1 := (hwi.1.ints HWX.out (fun h => h)).cell av (by omega)
                have c2 := (hwi.1.ints HWX.out (fun h => h)).cell (av + 1 + u) (by omega)
                have zw := (hwi.1.ints HWX.out (fun h => h)).lt
                go_simp
                apply hK
                · rfl
                · conv => (lhs; whnf)
                · exact ⟨hwi.1, GWI.fixed hwi.2 trivial⟩
              simp only [put_lit, put_none, List.set_cons_succ, List.set_cons_zero]
              apply ObligF.fixed
              case h =>
                intro S gh w1 hwi hSi hd hcl
                apply StepOk.intro
                intro K hK
                have cb := (hwi.1.blk HBX.out (fun h => h)).k14
                have c1 := (hwi.1.ints HWX.out (fun h => h)).cell av (by omega)
                have c2 := (hwi.1.ints HWX.out (fun h => h)).cell (av + 1 + u) (by omega)
                have zw := (hwi.1.ints HWX.out (fun h => h)).lt
                go_simp
                apply hK
                · rfl
                · conv => (lhs; whnf)
                · exact ⟨hwi.1, GWI.fixed hwi.2 trivial⟩
              simp only [put_lit, put_none, List.set_cons_succ, List.set_cons_zero]
              apply ObligF.fixed
              case h =>
                intro S gh w1 hwi hSi hd hcl
                apply StepOk.intro
                intro K hK
                have cb := (hwi.1.blk HBX.out (fun h => h)).k14
                have c1 := (hwi.1.ints HWX.out (fun h => h)).cell av (by omega)
                have c2 := (hwi.1.ints HWX.out (fun h => h)).cell (av + 1 + u) (by omega)
                have zw := (hwi.1.ints HWX.out (fun h => h)).lt
                go_simp
                apply hK
                · rfl
                · conv => (lhs; whnf)
                · exact ⟨hwi.1, GWI.fixed hwi.2 trivial⟩
              simp only [put_lit, put_none, List.set_cons_succ, List.set_cons_zero]
              apply ObligF.fixed
              case h =>
                intro S gh w1 hwi hSi hd hcl
                apply StepOk.intro
                intro K hK
                have cb := (hwi.1.blk HBX.out (fun h => h)).k14
                have c1 := (hwi.1.ints HWX.out (fun h => h)).cell av (by omega)
                have c2 := (hwi.1.ints HWX.out (fun h => h)).cell (av + 1 + u) (by omega)
                have zw := (hwi.1.ints HWX.out (fun h => h)).lt
                go_simp
                apply hK
                · rfl
                · conv => (lhs; whnf)
                · exact ⟨hwi.1, GWI.fixed hwi.2 trivial⟩
              simp only [put_lit, put_none, List.set_cons_succ, List.set_cons_zero]
              apply ObligF.fixed
              case h =>
                intro S gh w1 hwi hSi hd hcl
                apply StepOk.intro
                intro K hK
                have cb := (hwi.1.blk HBX.out (fun h => h)).k14
                have c1 := (hwi.1.ints HWX.out (fun h => h)).cell av (by omega)
                have c2 := (hwi.1.ints HWX.out (fun h => h)).cell (av + 1 + u) (by omega)
                have zw := (hwi.1.ints HWX.out (fun h => h)).lt
                go_simp
                apply hK
                · rfl
                · conv => (lhs; whnf)
                · exact ⟨hwi.1, GWI.fixed hwi.2 trivial⟩
              simp only [put_lit, put_none, List.set_cons_succ, List.set_cons_zero]
              exact ObligF.nil
            case h0 =>
              exact ⟨(Keep.refl _ _).drew, GWI.start _ _ _⟩
            case hend =>
              intro S gh wx hwi hall
              have HKX := hid hwi.1
              clear hwi hall
              have HKE := hid (HFAR.out _ (HKX0.out.trans (HKX.out.to (S := fun b => (b = m ∨ b = a ∨ b = x ∨ lv5.ownBlock = some b) ∨ w7.heap.size ≤ b)) (fun _ _ h => h)))
              by_cases h7 : t8.next = 7
              · go_wp2_with fail
                go_ret
                exact ⟨rfl, HKE.out⟩
              · have h8 : t8.next < 7 := by omega
                go_wp2_with fail
                go_roundw
                case rel => exact ⟨i + 1, by omega, by go_num, t8, sys_same HTX.out HKX.out, h8, HLX.out, HKX0.out.trans (HKX.out.to (S := fun b => (b = m ∨ b = a ∨ b = x ∨ lv5.ownBlock = some b) ∨ w7.heap.size ≤ b)) (fun _ _ h => h)⟩
                case measure => simp [intOf]; omega
      · have HKF := hid (HFAR.out _ HKR.out)
        go_wp2_with fail
        go_ret
        exact ⟨rfl, HKF.out⟩
end Go.Proofs.Ytdjfeapncpcmgaa
