/- ShiftTwo: raises and lowerings that step by turns, whatever the order. -/
import Derived.Test.YtonekdolmbdniaaManyNine
import Derived.Test.YtonekdolmbdniaaRowMany
namespace Go.Proofs.Ytonekdolmbdniaa
open Go.RowKit
set_option linter.unusedVariables false
set_option linter.unusedSimpArgs false
set_option maxRecDepth 100000

theorem info_sptr : (Try.prog.info? 37).map (fun i => (i.zero, i.size, i.bytes)) = some (some (.pointer none), 1, 8) := by kernel_rfl
theorem info_sbool : (Try.prog.info? 4).map (fun i => (i.zero, i.size, i.bytes)) = some (some (.bool false), 1, 1) := by kernel_rfl
theorem made_bools9 (n : Nat) : madeCells (Value.bool false).cells n = (List.replicate n (Value.bool false)).toArray := by
  apply Array.ext
  · simp [madeCells]
  · intro i h1 h2
    have e : i % 1 = 0 := Nat.mod_one i
    simp [madeCells, Value.cells, e]
theorem SRow.grown {w w1 w' : World} {li av : Nat} {nd : Int} {xs ys : List Nat} {ms : List Sc} {base : Nat} {v : Value} {n : Nat} {zs : List Value} (h : SRow w li av nd xs ys ms) (hk : Keep0 w w1) (ho : w1.ownsRow base 37 1 v n zs) (hg : w1.grownBy w' v.ownBlock) : SRow w' li av nd xs ys ms :=
  ⟨h.len, h.lny, fun i h1 h2 h3 => ⟨grown_blk hg (hk.blk (h.blk i h1 h2 h3).1 (fun h => h)) (ownBlock_ne ho (hk.blk (h.blk i h1 h2 h3).1 (fun h => h)) (by decide)), grown_blk hg (hk.blk (h.blk i h1 h2 h3).2 (fun h => h)) (ownBlock_ne ho (hk.blk (h.blk i h1 h2 h3).2 (fun h => h)) (by decide))⟩, h.inj⟩
theorem scs_zero (j li av : Nat) (nd n : Int) (sb : Nat) : scs (1 + j % 2) li av nd n sb (SS.mk [] [] 0 0 false) = [i64 li, i64 av, i64 nd, i64 n, i64 0, .slice (some ⟨sb, 0, none⟩) (if 1 + j % 2 = 0 then 1 else 3) (if 1 + j % 2 = 0 then 1 else 3), i64 0, i64 0, i64 0, .bool false, i64 0] := by
  have e : ¬ (1 + j % 2 = 0) := by omega
  simp [scs, shc, atN, aeN, anN, e]
theorem snoc_all {xs : List Nat} {x N : Nat} (h : ∀ q (hq : q < xs.length), N ≤ xs[q]) (hx : N ≤ x) : ∀ q (hq : q < (xs ++ [x]).length), N ≤ (xs ++ [x])[q] := by
  intro q hq
  by_cases e : q < xs.length
  · rw [List.getElem_append_left e]; exact h q e
  · rw [List.getElem_append_right (by omega)]; simpa using hx
/-- the machines at their beginnings -/
def sk0 (ll : List Int) : Nat → List Sc
  | 0 => []
  | j + 1 => sk0 ll j ++ [⟨1 + j % 2, rd ll j % 50 + 1, 0, 0, false⟩]
theorem sk0_length (ll : List Int) (j : Nat) : (sk0 ll j).length = j := by
  induction j with
  | zero => rfl
  | succ j ih => simp [sk0, ih]
theorem sk0_get (ll : List Int) (j i : Nat) (h : i < (sk0 ll j).length) : (sk0 ll j)[i] = ⟨1 + i % 2, rd ll i % 50 + 1, 0, 0, false⟩ := by
  induction j with
  | zero => simp [sk0] at h
  | succ j ih =>
    have hl := sk0_length ll j
    simp only [sk0]
    by_cases e : i < j
    · rw [List.getElem_append_left (by omega)]
      exact ih (by omega)
    · have h' : i < j + 1 := by rw [sk0_length] at h; exact h
      have e2 : i = j := by omega
      rw [List.getElem_append_right (by omega)]
      simp [hl, e2]
theorem isum_zero9 (l : List Int) (h : ∀ x ∈ l, x = 0) : isum l = 0 := by
  induction l with
  | nil => rfl
  | cons y l ih =>
    have h1 := h y (by simp)
    have h2 := ih (fun x hx => h x (by simp [hx]))
    simp [isum] at h2 ⊢
    omega
theorem isum_snoc9 (l : List Int) (x : Int) : isum (l ++ [x]) = isum l + x := by
  induction l with
  | nil => simp [isum]
  | cons y l ih => simp [isum] at ih ⊢; omega
theorem isum_take9 (ms : List Sc) (f : Sc → Int) (j : Nat) (h : j < ms.length) : isum ((ms.take (j + 1)).map f) = isum ((ms.take j).map f) + f ms[j] := by
  rw [List.take_succ_eq_append_getElem h, List.map_append, List.map_singleton, isum_snoc9]
theorem isum_bd9 (ms : List Sc) (f : Sc → Int) (Y : Int) (h : ∀ i (hi : i < ms.length), -Y ≤ f ms[i] ∧ f ms[i] ≤ Y) (j : Nat) (hj : j ≤ ms.length) : -(Y * j) ≤ isum ((ms.take j).map f) ∧ isum ((ms.take j).map f) ≤ Y * j := by
  induction j with
  | zero => simp [isum]
  | succ j ih =>
    have h1 := ih (by omega)
    have h2 := h j (by omega)
    rw [isum_take9 ms f j (by omega), show Y * ((j + 1 : Nat) : Int) = Y * j + Y from by rw [show ((j + 1 : Nat) : Int) = (j : Int) + 1 from by omega, Int.mul_add, Int.mul_one]]
    omega
theorem sinv9' {W : List Int} {kd li av : Nat} {n X : Int} (hk : 1 ≤ kd) (hk2 : kd ≤ 2) (hli : li + 1 = av) (hav : av < W.length) (hn : 1 ≤ n ∧ n ≤ 1048576) (hX : 0 ≤ X) (h1 : -X ≤ rd W li ∧ rd W li ≤ X) (h2 : -X ≤ rd W av ∧ rd W av ≤ X) : SInv kd (if kd = 2 then av else li) (if kd = 2 then li else av) n X ⟨W, [], 0, 0, false⟩ := by
  refine SInv.start9 (by split <;> omega) (by split <;> omega) (by split <;> omega) hk2 hn ?_ ?_ hX (by rw [if_neg (by omega)])
  · split
    · exact h2
    · exact h1
  · split
    · exact h1
    · exact h2
theorem ti_start {li av : Nat} {X : Int} {W : List Int} {ll : List Int} {j : Nat} (hli : li + 1 = av) (hav : av < W.length) (hX : 0 ≤ X) (h1 : -X ≤ rd W li ∧ rd W li ≤ X) (h2 : -X ≤ rd W av ∧ rd W av ≤ X) :
    TI li av X W W [] (sk0 ll j) := by
  have hz : ∀ f : Sc → Int, (∀ i, f ⟨1 + i % 2, rd ll i % 50 + 1, 0, 0, false⟩ = 0) → isum ((sk0 ll j).map f) = 0 := fun f hf => isum_zero9 _ (by
    intro x hx
    rw [List.mem_map] at hx
    obtain ⟨c, hc, rfl⟩ := hx
    obtain ⟨i, hi, rfl⟩ := List.getElem_of_mem hc
    rw [sk0_get]
    exact hf i)
  refine ⟨rfl, ?_, h1, h2, ?_, ?_⟩
  · intro i hi
    rw [sk0_get]
    have hm : i % 2 = 0 ∨ i % 2 = 1 := by omega
    have h0 := Int.emod_nonneg (rd ll i) (show (50 : Int) ≠ 0 by omega)
    have h3 := Int.emod_lt_of_pos (rd ll i) (show (0 : Int) < 50 by omega)
    refine ⟨by show 1 + i % 2 = 1 ∨ 1 + i % 2 = 2; omega, ?_⟩
    have hs := sinv9' (W := W) (kd := 1 + i % 2) (li := li) (av := av) (n := rd ll i % 50 + 1) (X := X) (by omega) (by omega) hli hav (by omega) hX h1 h2
    exact hs
  · rw [hz Sc.oLi (fun i => by simp [Sc.oLi, Sc.ss, ownF, ownG])]; omega
  · rw [hz Sc.oAv (fun i => by simp [Sc.oAv, Sc.ss, ownF, ownG])]; omega
def ovrS (ms : List Sc) : List Value := ms.map (fun c => .bool (decide (c.st = 3)))
theorem ovrS_start (ll : List Int) (j : Nat) : List.replicate j (Value.bool false) = ovrS (sk0 ll j) := by
  apply List.ext_getElem
  · simp [ovrS, sk0_length]
  · intro i h1 h2
    simp only [ovrS, List.getElem_map, List.getElem_replicate]
    rw [sk0_get]
    rfl
theorem ovrS_get (ms : List Sc) (k : Nat) (h : k < ms.length) : (ovrS ms)[k]? = some (.bool (decide (ms[k].st = 3))) := by simp [ovrS, h]
theorem ovrS_set (ms : List Sc) (k : Nat) (t : SS) (h : k < ms.length) : ovrS (ms.set k (ms[k].of t)) = (ovrS ms).set k (.bool (decide (t.st = 3))) := by
  unfold ovrS
  rw [List.map_set]
  rfl
theorem sc_own {m : Sc} (hk : m.kd = 1 ∨ m.kd = 2) (h3 : m.st = 3) : m.oLi = (if m.bad = true then 0 else if m.kd = 1 then m.n else -m.n) ∧ m.oAv = m.oLi := by
  rcases hk with e | e <;> cases hb : m.bad <;> simp [Sc.oLi, Sc.oAv, Sc.ss, ownF, ownG, sBy, e, h3, hb]
theorem s_Ans0 {w : World} {x kd li av sb : Nat} {nd n : Int} {t : SS} (hx : Blk w x 85 (scs kd li av nd n sb t)) (hb : t.bad = false) : Calls Try.prog 18 #[ptr x] w (Ret (.agg #[i64 0, i64 0, .bool false, i64 0]) w) := by
  have h := sh_Ans hx
  rw [hb] at h
  exact h
theorem s_Ans1 {w : World} {x kd li av sb : Nat} {nd n : Int} {t : SS} (hx : Blk w x 85 (scs kd li av nd n sb t)) (hb : t.bad = true) : ∃ ae an : Int, ae ≠ 0 ∧ Calls Try.prog 18 #[ptr x] w (Ret (.agg #[i64 ae, i64 0, .bool false, i64 an]) w) := by
  have h := sh_Ans hx
  rw [hb] at h
  exact ⟨aeN kd true, anN kd nd true, by unfold aeN; simp; split <;> omega, h⟩

set_option maxHeartbeats 20000000 in
theorem shiftTwo_walk {w : World} {v0 v1 v2 : Value} (hc : PoolIn w v0) (lim : Int) (hlim : (Lit.int .u32 lim).wf = true) (h1 : ∃ l, KsIn .u16 w v1 l ∧ ∀ i, i < l.length → 0 ≤ rd l i ∧ rd l i ≤ 65535) (h2 : ∃ l, KsIn .u8 w v2 l ∧ ∀ i, i < l.length → 0 ≤ rd l i ∧ rd l i ≤ 255) : Calls Try.prog 5 #[v0, .int .u32 lim, v1, v2] w (Ret (.bool true) w) := by
  have hlim := bounds_u32 hlim
  obtain ⟨ll, ⟨LLA, llc, rfl, hll63, hll⟩, hllb⟩ := h1
  obtain ⟨pk, ⟨PKA, pkc, rfl, hpk63, hpk⟩, hpkb⟩ := h2
  have HLS := hid hll
  have HLSB := hid hllb
  have HPKA := hid hpk
  have HPKB := hid hpkb
  clear hll hllb hpk hpkb
  obtain ⟨t, s, g, l, r, k, P, L, PA, pc, LA, lc, nd, nn, st, avl, Q, QA, qc, K, KA, kc, rfl, hP, hL, hp1, hl1, hnd, hnn, hst, havl, hQ, hq1, hq2, hK, hk1⟩ := hc
  have HB : Hid (Blk (w.alloc (.cells #[i64 t, i64 s, i64 g, i64 l, i64 r, i64 k, .slice PA P.length pc, .slice LA L.length lc, .int .u8 nd, .int .u32 nn, .int .u8 st, .int .u32 avl, .slice QA Q.length qc, .slice KA K.length kc] 29)) w.heap.size 29 [i64 t, i64 s, i64 g, i64 l, i64 r, i64 k, .slice PA P.length pc, .slice LA L.length lc, .int .u8 nd, .int .u32 nn, .int .u8 st, .int .u32 avl, .slice QA Q.length qc, .slice KA K.length kc]) := hid (Blk.made rfl rfl)
  have HK0 : Hid (Keep0 w (w.alloc (.cells #[i64 t, i64 s, i64 g, i64 l, i64 r, i64 k, .slice PA P.length pc, .slice LA L.length lc, .int .u8 nd, .int .u32 nn, .int .u8 st, .int .u32 avl, .slice QA Q.length qc, .slice KA K.length kc] 29))) := hid ((Keep.refl _ _).alloc _)
  have HGD := hid (fun (w' : World) (hk : Keep0 w w') => law8_Good t s g l r k PA P pc LA L lc nd nn st avl QA Q qc KA K kc w' (hP.keep hk) (hL.keep hk) hp1 hl1 hq1 hk1)
  have HWO := hid (fun (w' : World) (hk : Keep0 w w') hR hq => law8_Words t s g l r k PA P pc LA L lc nd nn st avl QA Q qc KA K kc w' (hP.keep hk) (hL.keep hk) (hQ.keep hk) hR hnd hnn hst havl hq hq2)
  have HPK := hid (fun (w' : World) (hk : Keep0 w w') hR hk40 => law9_pokes t s g l r k PA P pc LA L lc nd nn st avl QA Q qc KA K kc w' (hK.keep hk) hR hnd hnn hst hk40)
  clear hP hL hQ hK hq2
  go_enter Try.func5, Try.ntmps5
  go_wp2_with fail
  have qHB := HB.out.k14
  refine (law9_head _).mono ?_
  rintro e w1 ⟨rfl, hk⟩
  have HK1 : Hid (Keep0 w w1) := hid (Keep0.step HK0.out hk)
  have T := hk.blk HB.out (fun h => h)
  clear hk HB HK0 qHB
  have HB := hid T
  clear T
  have qHB := HB.out.k14
  go_wp2_with fail
  refine (HGD.out _ HK1.out).mono ?_
  rintro e w2 ⟨rfl, hk⟩
  have HK2 : Hid (Keep0 w w2) := hid (Keep0.step HK1.out hk)
  have T := hk.blk HB.out (fun h => h)
  clear hk HB HK1 qHB HGD hp1 hl1 hq1 hk1
  have HB := hid T
  clear T
  have qHB := HB.out.k14
  cases hgood : good8B t s g l r k P L Q.length K.length
  · go_wp2
    go_ret
    exact ⟨rfl, HK2.out⟩
  · by_cases hl6 : 6 < ll.length
    · go_wp2
      go_ret
      exact ⟨rfl, HK2.out⟩
    by_cases hll0 : ll.length = 0
    · go_wp2
      go_ret
      exact ⟨rfl, HK2.out⟩
    by_cases hpk2 : 200 < pk.length
    · have hl0b : ((ll.length : Int) == 0) = false := by simpa using hll0
      go_wp2
      go_ret
      exact ⟨rfl, HK2.out⟩
    have gl6 : (6 < (ll.length : Int)) = False := by simp; omega
    have gp2 : (200 < (pk.length : Int)) = False := by simp; omega
    have hl1 : 1 ≤ ll.length ∧ ll.length ≤ 6 := by omega
    have hl0b : ((ll.length : Int) == 0) = false := by simpa using hll0
    simp only [good8B, Bool.and_eq_true, decide_eq_true_eq] at hgood
    obtain ⟨⟨hgood, hk40⟩, hq20⟩ := hgood
    have R := Right.of hgood
    clear hgood
    obtain ⟨s, rfl⟩ := Int.eq_ofNat_of_zero_le (show 0 ≤ s by have := R.sb; omega)
    have hs := R.sb
    have hp := R.p
    have hl := R.l
    have hkk := R.k
    have hlen := R.len
    have HOF := hid (fun (w' : World) => law8_Of t (s : Int) g l r k PA P pc LA L lc nd nn st avl QA Q qc KA K kc w' ⟨hp.1, by omega⟩ hs hnd hnn hst)
    have HWO2 := hid (fun w' hk => HWO.out w' hk R hq20)
    have HPK2 := hid (fun w' hk => HPK.out w' hk R hk40)
    clear HWO HPK
    have hv0 := Int.emod_nonneg nd (show (P.length : Int) ≠ 0 by omega)
    have hv1 := Int.emod_lt_of_pos nd (show (0 : Int) < P.length by omega)
    have hu0 := Int.emod_nonneg st (show (s : Int) ≠ 0 by omega)
    have hu1 := Int.emod_lt_of_pos st (show (0 : Int) < s by omega)
    have hn0 := Int.emod_nonneg nn (show (1048576 : Int) ≠ 0 by omega)
    have hn1 := Int.emod_lt_of_pos nn (show (0 : Int) < 1048576 by omega)
    generalize nd % (P.length : Int) = v at *
    generalize st % (s : Int) = u at *
    generalize hne : nn % 1048576 + 1 = n at *
    have hn : 1 ≤ n ∧ n ≤ 1048576 := by omega
    clear hne hn0 hn1
    have PW := poolWords R (v := v) (avl := avl) (Q := Q) ⟨hv0, hv1⟩ havl
    have hm1 := mul_bd 12 22 hv0 (by omega) (show 0 ≤ 6 + 2 * (s : Int) by omega) (by omega)
    have hm4 := mul_bd 12 22 (show (0 : Int) ≤ P.length by omega) (by omega) (show 0 ≤ 6 + 2 * (s : Int) by omega) (by omega)
    obtain ⟨av, hav⟩ := Int.eq_ofNat_of_zero_le (show 0 ≤ v * (6 + 2 * (s : Int)) + 1 by omega)
    rw [show (v * (6 + 2 * (s : Int)) + 1).toNat = av from by omega] at PW
    have hav0 : av ≤ 300 := by omega
    have HAV := hid hav.symm
    clear hav
    obtain ⟨u, rfl⟩ := Int.eq_ofNat_of_zero_le hu0
    have hus : u < s := by omega
    have hfit := PW.fit
    rw [Int.toNat_natCast] at hfit
    have hWl := PW.len
    generalize hWW : words8 (s : Int) k l L P.length v avl Q = WW at *
    clear hWW
    have HN : Hid ((P.length : Int) * (6 + 2 * (s : Int)) + 2 * k = (WW.length : Int)) := hid (by have := hkk; omega)
    have hWm : WW.length ≤ 10000 := by omega
    rw [← hWl] at hfit
    clear hWl
    obtain ⟨li, HLI⟩ : ∃ li : Nat, Hid ((li : Int) = v * (6 + 2 * (s : Int)) ∧ li + 1 = av) := ⟨(v * (6 + 2 * (s : Int))).toNat, hid (by have := HAV.out; omega)⟩
    have hla := HLI.out.2
    have hl9 := lim9_bd hlim false
    obtain ⟨VV, HVV⟩ : ∃ VV : List Int, Hid (VV = WW.set li (lim9 lim false)) := ⟨_, hid rfl⟩
    have HVL : Hid (VV.length = WW.length) := hid (by rw [HVV.out, List.length_set])
    have HSV : Hid (rd VV li = lim9 lim false ∧ rd VV av = avl ∧ ∀ i, -1099511627776 * 4 ≤ rd VV i ∧ rd VV i ≤ 1099511627776 * 4) := hid (by
      rw [HVV.out]
      refine ⟨by rw [rd_set, if_pos ⟨rfl, by omega⟩], by rw [rd_set, if_neg (by omega)]; exact PW.isav, fun i => ?_⟩
      rw [rd_set]
      split
      · omega
      · have := PW.all i; omega)
    have HR := hid R
    clear PW R hm4 hlen
    go_wp2_with fail
    have hOF := HOF.out
    refine (hOF _).mono ?_
    rintro e w3 ⟨rfl, hk⟩
    have HK3 : Hid (Keep0 w w3) := hid (Keep0.step HK2.out hk)
    have T := hk.blk HB.out (fun h => h)
    clear hk HB HK2 qHB
    have HB := hid T
    clear T
    have qHB := HB.out.k14
    go_wp2_with fail
    have HWK := hid (fun (w' : World) (hk : Keep0 w3 w') => HWO2.out w' (HK3.out.trans hk (fun _ _ h => h)))
    refine (law9_words t (s : Int) g l r k PA P.length pc LA L.length lc nd nn st avl QA Q.length qc KA K.length kc v n (u : Int) lim false li WW w3 hOF HWK.out hs ⟨hv0, by omega⟩ HLI.out.1 (by omega) hWm hlim).mono ?_
    rintro e w4 ⟨WA, Wc, rfl, how, hk⟩
    rw [← HVV.out] at how
    have HK4 : Hid (Keep0 w w4) := hid (Keep0.step HK3.out hk)
    have T := hk.blk HB.out (fun h => h)
    have hw3 := HK3.out.size
    clear hk HB HK3 qHB HWO2 HWK hOF HOF
    have HB := hid T
    clear T
    have qHB := HB.out.k14
    rw [← HVL.out] at how
    rw [← HVL.out] at HN hfit hWm
    have HWL := hid (show WW.length = VV.length from HVL.out.symm)
    obtain ⟨wg, rfl, hwg, hwge⟩ := ints_own how (by omega) rfl
    have HWG := hid hwg
    have HOW := hid how
    clear hwg how
    rw [show WW.length = VV.length from HWL.out]
    go_wp2_with fail
    refine (law8_Laid w.heap.size _ _ _ VV HWG.out.at_ hWm HK4.out.size).mono ?_
    rintro e w5 ⟨m, a, lv5, rfl, hm, hk, hzm, hza⟩
    have HM5 := hid hm
    have HK5 : Hid (Keep0 w w5) := hid (Keep0.step HK4.out hk)
    have hzm' := Nat.le_trans HK4.out.size hzm
    have hza' := Nat.le_trans HK4.out.size hza
    have HWG5 := hid (hk.ints HWG.out (fun h => h))
    have HOW5 := hid (ownsRow_keep HOW.out hk (fun _ _ h => h))
    have hwgm : wg ≠ a := by have := HWG.out.lt; omega
    have hwgm2 : wg ≠ m := by have := HWG.out.lt; omega
    have T := hk.blk HB.out (fun h => h)
    clear hk hm hzm hza HB HK4 qHB HWG HOW
    have HB := hid T
    clear T
    have qHB := HB.out.k14
    go_wp2_with fail
    have HB6 := HB
    clear qHB
    obtain ⟨i0, hti, hz0, hz1, hz2⟩ := info_parts info_sptr
    have HI := hid hti
    clear hti
    go_loopw [15, 16] (fun v14 v15 wr => ∃ j : Nat, j ≤ ll.length ∧ v15 = .int .i64 j ∧ ∃ A1 c1 xs ys, v14 = .slice A1 j c1 ∧ wr.ownsRow w5.heap.size 37 1 (.slice A1 j c1) j (xs.map ptr) ∧ SRow wr li av v xs ys (sk0 ll j) ∧ (∀ q (hq : q < xs.length), w5.heap.size ≤ xs[q]) ∧ (∀ q (hq : q < ys.length), w5.heap.size ≤ ys[q]) ∧ Blk wr w.heap.size 29 [i64 t, i64 s, i64 g, i64 l, i64 r, i64 k, .slice PA P.length pc, .slice LA L.length lc, .int .u8 nd, .int .u32 nn, .int .u8 st, .int .u32 avl, .slice QA Q.length qc, .slice KA K.length kc] ∧ Keep0 w5 wr) (fun _ v _ => ll.length - (intOf v).toNat)
    case atStart => exact ⟨0, Nat.zero_le _, rfl, none, 0, [], [], rfl, World.ownsRow_nil _ _ _ _, ⟨rfl, rfl, fun i h => by simp [sk0] at h, fun i j h => by simp at h⟩, fun q hq => by simp at hq, fun q hq => by simp at hq, HB6.out, Keep.refl _ _⟩
    case round =>
      obtain ⟨j, hj, rfl, A1, c1, xs, ys, rfl, ho, hmr, hxb, hyb, hb, hkr⟩ := hrel
      have HO := hid ho
      have HMR := hid hmr
      have HXB := hid hxb
      have HYB := hid hyb
      have HBB := hid hb
      have HKR := hid hkr
      have qb := hb.k14
      clear ho hmr hxb hyb hb hkr
      have HKO : Hid (Keep0 wr wr) := hid (Keep.refl _ _)
      have HCB := HBB
      have HKC := HKR
      by_cases hjl : j < ll.length
      · obtain ⟨lb, lo, rfl, hlc⟩ := (HLS.out.keep (HK5.out.trans HKR.out (fun _ _ h => h))).cell (by omega)
        have hcl := hlc j hjl
        have hlz := World.block_lt_of_cell? _ _ hcl
        simp only at hlz
        have hlzs := lts hlz
        have hbd := HLSB.out j hjl
        have y1 : IntKind.i64.wrap (rd ll j) = rd ll j := IntWalk.i64_in _ (by omega)
        have y2 : (rd ll j).tmod 50 = rd ll j % 50 := Int.tmod_eq_emod_of_nonneg hbd.1
        have hm50 := Int.emod_nonneg (rd ll j) (show (50 : Int) ≠ 0 by omega)
        have hm51 := Int.emod_lt_of_pos (rd ll j) (show (0 : Int) < 50 by omega)
        have y3 : IntKind.i64.wrap (rd ll j % 50 + 1) = rd ll j % 50 + 1 := IntWalk.i64_in _ (by omega)
        have hj0 : 0 ≤ (j : Int) % 2 ∧ (j : Int) % 2 < 2 := by omega
        have y4 : ((j : Int)).tmod 2 = (j : Int) % 2 := Int.tmod_eq_emod_of_nonneg (by omega)
        have y5 : IntKind.i64.wrap (1 + (j : Int) % 2) = 1 + (j : Int) % 2 := IntWalk.i64_in _ (by omega)
        have y6 : IntKind.u8.wrap (1 + (j : Int) % 2) = 1 + (j : Int) % 2 := IntWalk.u8_in _ (by omega)
        clear hlc
        go_wp2_with fail
        go_region_law (first
          | (refine step_append_own ?a1 (.tmp 60) (.tmp 76) 53 ?a2 (w5.heap.size) 37 i0 ?z 1 8 ?a3 ?a4 ?a5 ?a6 ?a7 ?a8 ?a9 (.slice A1 j c1) (j) (xs.map ptr) ?a10 ?hown (⟨w3.heap.size, 0, none⟩) (1) (1) ([ptr x]) ?a11 ?a12 ?hnews ?hone ?h63 ?hby ?hbase ?_; (case a1 => rfl); (case a2 => rfl); (case a3 => exact Try.underlying53); (case a4 => exact HI.out); (case a5 => exact hz0); (case a6 => exact hz1); (case a7 => exact hz2); (case a8 => rfl); (case a9 => decide); (case a10 => rfl); (case a11 => rfl); (case a12 => rfl); (case hown => exact ownsRow_keep (S := fun _ => False) HO.out (by repeat (first | exact Keep.refl _ _ | exact HKO.out | apply Keep.drew | apply Keep.alloc)) (fun _ _ h => h)); (case h63 => unfold maxLen; omega); (case hby => omega); (case hnews => exact news_at (by repeat (first | exact Blk.made (by simp) rfl | apply Blk.drew))); (case hone => simp [Value.oneCell']); (case hbase => have := HKC.out.size; simp; omega); intro A9 c9 w9 hown9 hg9 hsl9; have HB9 := hid (grown_blk hg9 (by repeat (first | exact HCB.out | apply Blk.drew | apply Blk.alloc)) (ownBlock_ne HO.out HBB.out (by decide))); have HO9 := hid hown9; have HOW3 := hid (show (w3.alloc (.cells #[ptr x] 37)).ownsRow w5.heap.size 37 1 (.slice A1 j c1) j (xs.map ptr) from ownsRow_keep (S := fun _ => False) HO.out (by repeat (first | exact Keep.refl _ _ | exact HKO.out | apply Keep.drew | apply Keep.alloc)) (fun _ _ h => h)); have HMR9 := hid ((SRow.snoc HMR.out (w' := w3) HKO.out HNB.out HNT.out HNX.out).grown ((Keep.refl _ _).alloc _) HOW3.out hg9); have HK9 : Hid (Keep0 w5 w9) := hid (Keep.grown (by repeat (first | exact HKC.out | apply Keep.drew | apply Keep.alloc)) hg9 (fun k hk e => by have := (HO.out.lt k e).1; omega)); clear hown9 hg9 hsl9 HOW3)
          | (go_simp; go_at_call 14; refine (law9_kind t (s : Int) g l r k PA P.length pc LA L.length lc v (rd ll j % 50 + 1) (1 + (j : Int) % 2) (1 + j % 2) _ (by omega) (by omega) hs.1 hs.2 hv0 (by omega)).mono ?_; rintro e w3 ⟨x, sb, rfl, hb, hst, hk, hx, hsx⟩; rw [show v * (6 + 2 * (s : Int)) + 1 = (av : Int) from HAV.out.symm, ← HLI.out.1] at hb; have T := hid (hk.blk (by repeat (first | exact HBB.out | apply Blk.drew | apply Blk.alloc)) (fun h => h)); have HKO2 : Hid (Keep0 wr w3) := hid (Keep0.step (by repeat (first | exact Keep.refl _ _ | exact HKO.out | apply Keep.drew | apply Keep.alloc)) hk); have HKC2 := hid (Keep0.step HKR.out HKO2.out); have HNB := hid (show Blk w3 x 85 (scs (1 + j % 2) li av v (rd ll j % 50 + 1) sb (SS.mk [] [] 0 0 false)) from by rw [scs_zero]; exact hb); have HNT := hid hst; have HNX := hid (show wr.heap.size ≤ x from by first | exact hx | (refine Nat.le_trans ?_ hx; simp)); have HNY := hid (show wr.heap.size ≤ sb from by first | exact hsx | (refine Nat.le_trans ?_ hsx; simp)); clear HCB HKO HKC hk hb hx hst hsx; have HCB := T; have HKO := HKO2; have HKC := HKC2; clear T HKO2 HKC2))
        all_goals
          have HO2 := hid (show w9.ownsRow w5.heap.size 37 1 (.slice A9 (j + 1) c9) (j + 1) ((xs ++ [x]).map ptr) from by have h := HO9.out; rw [List.map_append]; exact h)
          go_wp2_with fail
          go_roundw
          case rel => exact ⟨j + 1, by omega, by go_num, A9, c9, xs ++ [x], ys ++ [sb], rfl, HO2.out, HMR9.out, snoc_all HXB.out (Nat.le_trans HKR.out.size HNX.out), snoc_all HYB.out (Nat.le_trans HKR.out.size HNY.out), HB9.out, HK9.out⟩
          case measure => simp [intOf]; omega
      · obtain rfl : j = ll.length := by omega
        obtain ⟨ib0, hib, hb0, hb1, hb2⟩ := info_parts info_sbool
        have hmk := fun w => run_make (P := Try.prog) w 55 4 ib0 (.bool false) Try.underlying55 hib hb0 .i64 .i64 (ll.length : Int) (ll.length : Int) (by omega) (by omega) (by rw [hb2]; omega) (by omega)
        simp only [hb1, Nat.mul_one, made_bools9, Int.toNat_natCast] at hmk
        clear hib hb0 hb1 hb2 HCB HKO HKC
        have hsv := HSV.out
        have hm0 := ti_start (li := li) (av := av) (X := 1099511627776) (W := VV) (ll := ll) (j := ll.length) hla (by omega) (by omega) (by rw [hsv.1]; omega) (by rw [hsv.2.1]; omega)
        have HMI0 := hid hm0
        have HMK := hid hmk
        have hA1 : A1 ≠ none := fun e => by
          have h := HO.out
          rcases h.2 with ⟨e', h0⟩ | ⟨g', cap, cur, e', _⟩
          · omega
          · cases e'; cases e
        obtain ⟨rb, rfl, hrow, hrb6, hrbz0⟩ : ∃ rb, A1 = some ⟨rb, 0, none⟩ ∧ (∀ q (hq : q < xs.length), wr.cell? ⟨rb, q, none⟩ = some (ptr xs[q])) ∧ w5.heap.size ≤ rb ∧ rb < wr.heap.size := by
          have h := HO.out
          rcases h.2 with ⟨e', h0⟩ | ⟨g', cap, cur, e', hbg, hgg, _⟩
          · omega
          · cases e'
            refine ⟨g', rfl, fun q hq => ?_, hbg, (Array.getElem?_eq_some_iff.1 hgg).1⟩
            have h2 := h.cells (g := g') rfl q (ptr xs[q]) (by simp [hq])
            rw [addr_add] at h2
            exact h2
        have hxl : xs.length = ll.length := by have := HMR.out.len; rw [sk0_length] at this; exact this
        have hyl : ys.length = ll.length := by have := HMR.out.lny; rw [sk0_length] at this; exact this
        have hrbt : ∀ {T : TypeId} {cs : List Value} {b : Nat}, Blk wr b T cs → T ≠ 37 → b ≠ rb := fun hb ht e => ownBlock_ne HO.out hb ht (by rw [e]; rfl)
        have hrbx : ∀ q (hq : q < xs.length), xs[q] ≠ rb := fun q hq => hrbt (HMR.out.blk q (by rw [sk0_length]; omega) hq (by rw [hyl]; omega)).1 (by decide)
        have HM7 := hid (HM5.out.same HKR.out)
        have hrbm : m ≠ rb := hrbt HM7.out.mem (by decide)
        have hrba : a ≠ rb := hrbt HM7.out.words (by decide)
        have hrbB : w.heap.size ≠ rb := hrbt HBB.out (by decide)
        have hrbl : lv5.ownBlock ≠ some rb := fun e => own_own_ne HO.out HM7.out.log (by decide) rb rfl e
        have hbx : ∀ q (hq : q < xs.length), xs[q] ≠ w.heap.size := fun q hq e => (HMR.out.blk q (by rw [sk0_length]; omega) hq (by rw [hyl]; omega)).1.ne HBB.out (by decide) e
        have hbm : m ≠ w.heap.size := HM7.out.mem.ne HBB.out (by decide)
        have hba : a ≠ w.heap.size := HM7.out.words.ne HBB.out (by decide)
        have hbl : lv5.ownBlock ≠ some w.heap.size := fun e => ownBlock_ne HM7.out.log HBB.out (by decide) e.symm
        have hbz := HBB.out.lt
        have hx6 : ∀ q (hq : q < xs.length), xs[q] < wr.heap.size := fun q hq => (HMR.out.blk q (by rw [sk0_length]; omega) hq (by rw [hyl]; omega)).1.lt
        have HXW := hid (fun q (hq : q < xs.length) => HXB.out q hq)
        clear hjl hj
        have hmk := HMK.out
        have qb := HBB.out.k14
        go_wp2_with fail
        clear hmk qb
        have HOVB := hid (show Blk (wr.alloc (.cells (Array.replicate ll.length (Value.bool false)) 4)) wr.heap.size 4 (ovrS (sk0 ll ll.length)) from by rw [← ovrS_start]; exact Blk.made rfl (by simp))
        have hwz : (wr.alloc (.cells (Array.replicate ll.length (Value.bool false)) 4)).heap.size = wr.heap.size + 1 := by simp
        have HKA := hid ((Keep.refl (fun _ => False) wr).alloc (.cells (Array.replicate ll.length (Value.bool false)) 4))
        have HK7 : Hid (Keep0 w wr) := hid (Keep0.step HK5.out HKR.out)
        generalize hw8 : wr.alloc (.cells (Array.replicate ll.length (Value.bool false)) 4) = w8 at *
        have hobB0 : w.heap.size ≤ wr.heap.size := HK7.out.size
        generalize hob : wr.heap.size = ob at *
        have hobB : w.heap.size ≤ ob := hobB0
        have HK8 : Hid (Keep0 w w8) := hid (HK7.out.trans HKA.out (fun _ _ h => h))
        have HMS0 := hid (show SM w.heap.size m a ob li av v 1099511627776 xs ys VV lv5 w8.heap.size 0 w8 VV [] (sk0 ll ll.length) (ovrS (sk0 ll ll.length)) from
          ⟨⟨lv5, HM7.out.same HKA.out, fun _ h => Or.inl h⟩, by have h := HMI0.out; simpa using h, HMR.out.keep HKA.out (fun _ _ h => h) (fun _ _ h => h), HOVB.out, by simp, Nat.le_refl _⟩)
        have hrbn : ¬ ((rb = m ∨ rb = a ∨ rb ∈ xs ∨ rb = ob ∨ lv5.ownBlock = some rb) ∨ w8.heap.size ≤ rb) := by
          rintro ((h | h | h | h | h) | h)
          · exact hrbm h.symm
          · exact hrba h.symm
          · obtain ⟨q, hq, e⟩ := List.getElem_of_mem h
            exact hrbx q hq e
          · omega
          · exact hrbl h
          · omega
        have hboxn : ¬ ((w.heap.size = m ∨ w.heap.size = a ∨ w.heap.size ∈ xs ∨ w.heap.size = ob ∨ lv5.ownBlock = some w.heap.size) ∨ w8.heap.size ≤ w.heap.size) := by
          rintro ((h | h | h | h | h) | h)
          · exact hbm h.symm
          · exact hba h.symm
          · obtain ⟨q, hq, e⟩ := List.getElem_of_mem h
            exact hbx q hq e
          · omega
          · exact hbl h
          · omega
        have hwgz := HWG5.out.lt
        have hw5r := HKR.out.size
        have hwgn : ¬ ((wg = m ∨ wg = a ∨ wg ∈ xs ∨ wg = ob ∨ lv5.ownBlock = some wg) ∨ w8.heap.size ≤ wg) := by
          rintro ((h | h | h | h | h) | h)
          · exact hwgm2 h
          · exact hwgm h
          · obtain ⟨q, hq, e⟩ := List.getElem_of_mem h
            have := HXW.out q hq
            omega
          · omega
          · exact own_own_ne HOW5.out HM5.out.log (by decide) wg rfl h
          · omega
        have hrbz : rb < w8.heap.size := by omega
        have HROW := hid (fun q (hq : q < xs.length) (w' : World) (hk : Keep (fun b => (b = m ∨ b = a ∨ b ∈ xs ∨ b = ob ∨ lv5.ownBlock = some b) ∨ w8.heap.size ≤ b) w8 w') => (show w'.cell? ⟨rb, q, none⟩ = some (ptr xs[q]) from (cell_old hk hrbz hrbn _).trans ((cell_old HKA.out (by rw [hob]; exact hrbz0) (fun h => h) _).trans (hrow q hq))))
        have HBOX := hid (fun (w' : World) (hk : Keep (fun b => (b = m ∨ b = a ∨ b ∈ xs ∨ b = ob ∨ lv5.ownBlock = some b) ∨ w8.heap.size ≤ b) w8 w') => (show Blk w' w.heap.size 29 [i64 t, i64 s, i64 g, i64 l, i64 r, i64 k, .slice PA P.length pc, .slice LA L.length lc, .int .u8 nd, .int .u32 nn, .int .u8 st, .int .u32 avl, .slice QA Q.length qc, .slice KA K.length kc] from hk.blk (HKA.out.blk HBB.out (fun h => h)) hboxn))
        have HLV5 := hid (fun b (e : lv5.ownBlock = some b) => (HM7.out.log.lt b e).1)
        have hw6 := HK5.out.size
        have HFAR := hid (fun (w' : World) (hk : Keep (fun b => (b = m ∨ b = a ∨ b ∈ xs ∨ b = ob ∨ lv5.ownBlock = some b) ∨ w8.heap.size ≤ b) w8 w') => (show Keep0 w w' from by
          refine keep_far HK8.out hk ?_
          rintro b ((rfl | rfl | h | rfl | h) | h)
          · exact hzm'
          · exact hza'
          · obtain ⟨q, hq, rfl⟩ := List.getElem_of_mem h
            exact Nat.le_trans hw6 (HXW.out q hq)
          · exact hobB
          · exact HLV5.out b h
          · exact Nat.le_trans HK8.out.size h))
        have hnsq : ((40 * ll.length * ll.length : Nat) : Int) = 40 * (ll.length : Int) * (ll.length : Int) := by push_cast; rfl
        have hnsb : 40 * ll.length * ll.length ≤ 1440 := by
          have h1 : 40 * ll.length ≤ 240 := by omega
          calc 40 * ll.length * ll.length ≤ 240 * 6 := Nat.mul_le_mul h1 (by omega)
            _ = 1440 := rfl
        have HN0 := hid (fun q (hq : q < (sk0 ll ll.length).length) => (show (sk0 ll ll.length)[q].n = rd ll q % 50 + 1 ∧ (sk0 ll ll.length)[q].kd = 1 + q % 2 from by rw [sk0_get]; exact ⟨rfl, rfl⟩))
        have HL0 := hid (sk0_length ll ll.length)
        have HWG8 := hid (fun (w' : World) (hk : Keep (fun b => (b = m ∨ b = a ∨ b ∈ xs ∨ b = ob ∨ lv5.ownBlock = some b) ∨ w8.heap.size ≤ b) w8 w') => (show Ints w' wg VV from hk.ints (HKA.out.ints (HKR.out.ints HWG5.out (fun h => h)) (fun h => h)) hwgn))
        clear HO HMR HXB HYB HBB HKR HMI0 HMK HM5 HM7 HK5 HK7 HKA HB6 HB HOVB HWG5 HOW5 hrow hrbx hrbt hbx hx6 HPK2 hm0 hrbn hboxn hwgn hw8 HI hz0 hz1 hz2 hrbm hrba hrbB hrbl hbm hba hbl hwz hA1 hsv
        have hg40 : ((40 : Int) * (ll.length : Int)) ≤ 240 := by omega
        have y40 : IntKind.i64.wrap (40 * (ll.length : Int)) = 40 * (ll.length : Int) := IntWalk.i64_in _ (by omega)
        have y41 : IntKind.i64.wrap (40 * (ll.length : Int) * (ll.length : Int)) = 40 * (ll.length : Int) * (ll.length : Int) := IntWalk.i64_in _ (by omega)
        have y42 : IntKind.i64.wrap ((pk.length : Int) + 40 * (ll.length : Int) * (ll.length : Int)) = (pk.length : Int) + 40 * (ll.length : Int) * (ll.length : Int) := IntWalk.i64_in _ (by omega)
        go_loopw [18] (fun v17 wr => ∃ i : Nat, i ≤ pk.length + 40 * ll.length * ll.length ∧ v17 = .int .i64 i ∧ ∃ W LG ms, SM w.heap.size m a ob li av v 1099511627776 xs ys VV lv5 w8.heap.size i wr W LG ms (ovrS ms) ∧ ms.length = ll.length ∧ (∀ q (hq : q < ms.length), ms[q].n = rd ll q % 50 + 1 ∧ ms[q].kd = 1 + q % 2) ∧ ProgS li av pk.length i W LG ms ∧ Keep (fun b => (b = m ∨ b = a ∨ b ∈ xs ∨ b = ob ∨ lv5.ownBlock = some b) ∨ w8.heap.size ≤ b) w8 wr) (fun v _ => pk.length + 40 * ll.length * ll.length - (intOf v).toNat)
        case atStart => exact ⟨0, Nat.zero_le _, rfl, VV, [], _, HMS0.out, HL0.out, HN0.out, ProgS.start, Keep.refl _ _⟩
        case round =>
          obtain ⟨i, hi, rfl, W, LG, ms, hms, hlen, hns, hpr, hkm⟩ := hrel
          have HMS := hid hms
          have HNS := hid hns
          have HPR := hid hpr
          have HKM := hid hkm
          clear hms hns hpr hkm HMS0 HL0 HN0
          by_cases hlt : i < pk.length + 40 * ll.length * ll.length
          · have glt : ((i : Int) < (pk.length : Int) + 40 * (ll.length : Int) * (ll.length : Int)) = True := by simp; omega
            have hi0 : (0 : Int) ≤ i := by omega
            have hnz : (ll.length : Int) ≠ 0 := by omega
            have hne : ll ≠ [] := fun e => by rw [e] at hl1; simp at hl1
            obtain ⟨k0, hk0⟩ : ∃ k0 : Nat, k0 = i % ll.length := ⟨_, rfl⟩
            have hk0l : k0 < ll.length := by rw [hk0]; exact Nat.mod_lt _ (by omega)
            have hk0i : ((i : Int)).tmod (ll.length : Int) = (k0 : Int) := by rw [Int.tmod_eq_emod_of_nonneg hi0, hk0]; simp
            have hk0j : ((i : Int)) % (ll.length : Int) = (k0 : Int) := by rw [hk0]; simp
            have HKZ := hid hk0
            clear hk0
            by_cases hip : i < pk.length
            · have gip : ((i : Int) < (pk.length : Int)) = True := by simp; omega
              obtain ⟨pb, po, rfl, hpc⟩ := (HPKA.out.keep (HFAR.out wr HKM.out)).cell (by omega)
              have cp := hpc i hip
              have cpz := World.block_lt_of_cell? _ _ cp
              simp only at cpz
              have hpb := HPKB.out i hip
              have y1 : IntKind.i64.wrap (rd pk i) = rd pk i := IntWalk.i64_in _ (by omega)
              obtain ⟨kk, hk⟩ := Int.eq_ofNat_of_zero_le (Int.emod_nonneg (rd pk i) hnz)
              have hkl : kk < ll.length := by have := Int.emod_lt_of_pos (rd pk i) (show (0 : Int) < ll.length by omega); omega
              have y2 : (rd pk i).tmod (ll.length : Int) = (kk : Int) := by rw [Int.tmod_eq_emod_of_nonneg hpb.1]; exact hk
              clear hpc
              have hkx : kk < xs.length := by have := HMS.out.row.len; omega
              have hkm : kk < ms.length := by rw [hlen]; exact hkl
              have hik : pk.length ≤ i → i % ms.length = kk := fun h => absurd h (by omega)
              have co : wr.cell? ⟨ob, kk, none⟩ = some (.bool (decide (ms[kk].st = 3))) := by rw [HMS.out.ovr.cell kk]; exact ovrS_get ms kk hkm
              have cf := HMS.out.ovr.frozen kk
              have cz := HMS.out.ovr.lt
              by_cases h7 : ms[kk].st = 3
              · rw [decide_eq_true h7] at co
                go_wp2_with fail
                go_roundw
                case rel => exact ⟨i + 1, by omega, by go_num, W, LG, ms, HMS.out.more, hlen, HNS.out, HPR.out.stay kk hkm h7 hik, HKM.out⟩
                case measure => simp [intOf]; omega
              · rw [decide_eq_false h7] at co
                have h77 : ms[kk].st < 3 := by have := (HMS.out.ti.mach kk hkm).2.nx; have e : (ms[kk].ss W LG).st = ms[kk].st := rfl; omega
                have cr := HROW.out kk hkx wr HKM.out
                have crz := Nat.lt_of_lt_of_le hrbz HKM.out.size
                have hst := HMS.out.step kk hkm hkx h77 (by omega) (by omega)
                have hpg := HPR.out.step kk hkm h77 hik
                have hnn : ∀ q (hq : q < (ms.set kk (ms[kk].of (sNext ms[kk].kd (ms[kk].f li av) (ms[kk].g li av) ms[kk].n (ms[kk].ss W LG)))).length), (ms.set kk (ms[kk].of (sNext ms[kk].kd (ms[kk].f li av) (ms[kk].g li av) ms[kk].n (ms[kk].ss W LG))))[q].n = rd ll q % 50 + 1 ∧ (ms.set kk (ms[kk].of (sNext ms[kk].kd (ms[kk].f li av) (ms[kk].g li av) ms[kk].n (ms[kk].ss W LG))))[q].kd = 1 + q % 2 := by
                  intro q hq
                  have hq' : q < ms.length := by simpa using hq
                  by_cases e : q = kk
                  · subst e
                    rw [List.getElem_set_self]
                    exact HNS.out q hq'
                  · rw [List.getElem_set_ne (fun e2 => e e2.symm)]
                    exact HNS.out q hq'
                have hov := ovrS_set ms kk (sNext ms[kk].kd (ms[kk].f li av) (ms[kk].g li av) ms[kk].n (ms[kk].ss W LG)) hkm
                have hnl : (ms.set kk (ms[kk].of (sNext ms[kk].kd (ms[kk].f li av) (ms[kk].g li av) ms[kk].n (ms[kk].ss W LG)))).length = ll.length := by rw [List.length_set]; exact hlen
                generalize sNext ms[kk].kd (ms[kk].f li av) (ms[kk].g li av) ms[kk].n (ms[kk].ss W LG) = t8 at *
                generalize ms.set kk (ms[kk].of t8) = ms8 at *
                have HST := hid hst
                have HPG := hid hpg
                have HNN := hid hnn
                have HOV := hid hov
                clear hst hpg hnn hov
                generalize xs[kk] = xk at *
                go_wp2_with fail
                refine HST.out.mono ?_
                rintro e w9 ⟨rfl, hms9, hk9⟩
                have hob9 := hms9.ovr
                have co9 : w9.cell? ⟨ob, kk, none⟩ = some (.bool false) := by rw [hob9.cell kk, ovrS_get ms kk hkm, decide_eq_false h7]
                have cf9 := hob9.frozen kk
                have cz9 := hob9.lt
                have HM9 := hid (show SM w.heap.size m a ob li av v 1099511627776 xs ys VV lv5 w8.heap.size (i + 1) (w9.setCell ⟨ob, kk, none⟩ (.bool (decide (t8.st = 3)))) t8.W t8.L ms8 (ovrS ms8) from by rw [HOV.out]; exact hms9.set kk _)
                have HK9 := hid (show Keep (fun b => (b = m ∨ b = a ∨ b ∈ xs ∨ b = ob ∨ lv5.ownBlock = some b) ∨ w8.heap.size ≤ b) w8 (w9.setCell ⟨ob, kk, none⟩ (.bool (decide (t8.st = 3)))) from (HKM.out.trans (hk9.mono (by
                  rintro b ((h | h | h | h) | h)
                  · exact Or.inl (Or.inl h)
                  · exact Or.inl (Or.inr (Or.inl h))
                  · exact Or.inl (Or.inr (Or.inr (Or.inl h)))
                  · exact Or.inl (Or.inr (Or.inr (Or.inr (Or.inr h))))
                  · exact Or.inr h)) (fun _ _ h => h)).set _ _ (fun _ => Or.inl (Or.inr (Or.inr (Or.inr (Or.inl rfl))))))
                clear hms9 hk9 hob9 HST
                go_wp2_with fail
                go_roundw
                case rel => exact ⟨i + 1, by omega, by go_num, t8.W, t8.L, ms8, HM9.out, hnl, HNN.out, HPG.out, HK9.out⟩
                case measure => simp [intOf]; omega
            · have gip : ((i : Int) < (pk.length : Int)) = False := by simp; omega
              obtain ⟨kk, hkk0⟩ : ∃ q, q = k0 := ⟨_, rfl⟩
              subst hkk0
              have hkl := hk0l
              have hkx : kk < xs.length := by have := HMS.out.row.len; omega
              have hkm : kk < ms.length := by rw [hlen]; exact hkl
              have hik : pk.length ≤ i → i % ms.length = kk := fun _ => by rw [hlen]; exact HKZ.out.symm
              have co : wr.cell? ⟨ob, kk, none⟩ = some (.bool (decide (ms[kk].st = 3))) := by rw [HMS.out.ovr.cell kk]; exact ovrS_get ms kk hkm
              have cf := HMS.out.ovr.frozen kk
              have cz := HMS.out.ovr.lt
              by_cases h7 : ms[kk].st = 3
              · rw [decide_eq_true h7] at co
                go_wp2_with fail
                go_roundw
                case rel => exact ⟨i + 1, by omega, by go_num, W, LG, ms, HMS.out.more, hlen, HNS.out, HPR.out.stay kk hkm h7 hik, HKM.out⟩
                case measure => simp [intOf]; omega
              · rw [decide_eq_false h7] at co
                have h77 : ms[kk].st < 3 := by have := (HMS.out.ti.mach kk hkm).2.nx; have e : (ms[kk].ss W LG).st = ms[kk].st := rfl; omega
                have cr := HROW.out kk hkx wr HKM.out
                have crz := Nat.lt_of_lt_of_le hrbz HKM.out.size
                have hst := HMS.out.step kk hkm hkx h77 (by omega) (by omega)
                have hpg := HPR.out.step kk hkm h77 hik
                have hnn : ∀ q (hq : q < (ms.set kk (ms[kk].of (sNext ms[kk].kd (ms[kk].f li av) (ms[kk].g li av) ms[kk].n (ms[kk].ss W LG)))).length), (ms.set kk (ms[kk].of (sNext ms[kk].kd (ms[kk].f li av) (ms[kk].g li av) ms[kk].n (ms[kk].ss W LG))))[q].n = rd ll q % 50 + 1 ∧ (ms.set kk (ms[kk].of (sNext ms[kk].kd (ms[kk].f li av) (ms[kk].g li av) ms[kk].n (ms[kk].ss W LG))))[q].kd = 1 + q % 2 := by
                  intro q hq
                  have hq' : q < ms.length := by simpa using hq
                  by_cases e : q = kk
                  · subst e
                    rw [List.getElem_set_self]
                    exact HNS.out q hq'
                  · rw [List.getElem_set_ne (fun e2 => e e2.symm)]
                    exact HNS.out q hq'
                have hov := ovrS_set ms kk (sNext ms[kk].kd (ms[kk].f li av) (ms[kk].g li av) ms[kk].n (ms[kk].ss W LG)) hkm
                have hnl : (ms.set kk (ms[kk].of (sNext ms[kk].kd (ms[kk].f li av) (ms[kk].g li av) ms[kk].n (ms[kk].ss W LG)))).length = ll.length := by rw [List.length_set]; exact hlen
                generalize sNext ms[kk].kd (ms[kk].f li av) (ms[kk].g li av) ms[kk].n (ms[kk].ss W LG) = t8 at *
                generalize ms.set kk (ms[kk].of t8) = ms8 at *
                have HST := hid hst
                have HPG := hid hpg
                have HNN := hid hnn
                have HOV := hid hov
                clear hst hpg hnn hov
                generalize xs[kk] = xk at *
                go_wp2_with fail
                refine HST.out.mono ?_
                rintro e w9 ⟨rfl, hms9, hk9⟩
                have hob9 := hms9.ovr
                have co9 : w9.cell? ⟨ob, kk, none⟩ = some (.bool false) := by rw [hob9.cell kk, ovrS_get ms kk hkm, decide_eq_false h7]
                have cf9 := hob9.frozen kk
                have cz9 := hob9.lt
                have HM9 := hid (show SM w.heap.size m a ob li av v 1099511627776 xs ys VV lv5 w8.heap.size (i + 1) (w9.setCell ⟨ob, kk, none⟩ (.bool (decide (t8.st = 3)))) t8.W t8.L ms8 (ovrS ms8) from by rw [HOV.out]; exact hms9.set kk _)
                have HK9 := hid (show Keep (fun b => (b = m ∨ b = a ∨ b ∈ xs ∨ b = ob ∨ lv5.ownBlock = some b) ∨ w8.heap.size ≤ b) w8 (w9.setCell ⟨ob, kk, none⟩ (.bool (decide (t8.st = 3)))) from (HKM.out.trans (hk9.mono (by
                  rintro b ((h | h | h | h) | h)
                  · exact Or.inl (Or.inl h)
                  · exact Or.inl (Or.inr (Or.inl h))
                  · exact Or.inl (Or.inr (Or.inr (Or.inl h)))
                  · exact Or.inl (Or.inr (Or.inr (Or.inr (Or.inr h))))
                  · exact Or.inr h)) (fun _ _ h => h)).set _ _ (fun _ => Or.inl (Or.inr (Or.inr (Or.inr (Or.inl rfl))))))
                clear hms9 hk9 hob9 HST
                go_wp2_with fail
                go_roundw
                case rel => exact ⟨i + 1, by omega, by go_num, t8.W, t8.L, ms8, HM9.out, hnl, HNN.out, HPG.out, HK9.out⟩
                case measure => simp [intOf]; omega
          · have hieq : i = pk.length + 40 * ms.length * ms.length := by rw [hlen]; omega
            have glt : ((i : Int) < (pk.length : Int) + 40 * (ll.length : Int) * (ll.length : Int)) = False := by simp; omega
            have hi2 : i ≤ 2000 := by omega
            have h7all : ∀ q (hq : q < ms.length), ms[q].st = 3 := fun q hq => by
              have h := HPR.out
              rw [hieq] at h
              exact h.done q hq (by have := (HMS.out.ti.mach q hq).2.nx; exact this)
            have H7 := hid h7all
            obtain ⟨⟨lv9, hm9, _⟩, hti9, hrow9, hov9, _, _⟩ := id HMS.out
            have HM9 := hid hm9
            have HR9 := hid hrow9
            have HOV9 := hid hov9
            have HB9 := hid (HBOX.out wr HKM.out)
            have HG9 := hid (HWG8.out wr HKM.out)
            have HK9 : Hid (Keep0 w wr) := hid (HFAR.out wr HKM.out)
            have HROW9 := hid (fun q (hq : q < xs.length) => HROW.out q hq wr HKM.out)
            have hrb9 : rb < wr.heap.size := Nat.lt_of_lt_of_le hrbz HKM.out.size
            have hmodb : ∀ q, 0 ≤ rd ll q % 50 ∧ rd ll q % 50 < 50 := fun q => ⟨Int.emod_nonneg _ (by omega), Int.emod_lt_of_pos _ (by omega)⟩
            have hown : ∀ q (hq : q < ms.length), ms[q].oLi = (if ms[q].bad = true then 0 else if q % 2 = 0 then rd ll q % 50 + 1 else -(rd ll q % 50 + 1)) ∧ ms[q].oAv = ms[q].oLi := fun q hq => by
              obtain ⟨e1, e2⟩ := HNS.out q hq
              have h := sc_own (m := ms[q]) (by omega) (h7all q hq)
              refine ⟨?_, h.2⟩
              rw [h.1, e1, e2]
              cases ms[q].bad
              · by_cases hp2 : q % 2 = 0
                · simp [hp2]
                · simp [hp2]
              · simp
            have hsame : ms.map Sc.oAv = ms.map Sc.oLi := by
              apply List.ext_getElem (by simp)
              intro q h1 h2
              simp only [List.getElem_map]
              exact (hown q (by simpa using h1)).2
            have hob1 := fun j hj => isum_bd9 ms Sc.oLi 64 (fun q hq => by rw [(hown q hq).1]; have := hmodb q; split <;> (try split) <;> omega) j hj
            have HOWN := hid (fun q hq => (hown q hq).1)
            have HBD1 := hid hob1
            have hsl := hti9.sli
            have hsa := hti9.sav
            rw [hsame] at hsa
            have HSL := hid hsl
            have HSA := hid hsa
            have hwl9 := hti9.len
            have hVl := HSV.out.1
            have hVa := HSV.out.2.1
            have hlb9 := lim9_bd hlim false
            rw [← hVl] at hlb9
            rw [← hVa] at havl
            have HWL9 := hid hwl9
            obtain ⟨w9, rfl⟩ : ∃ w9 : World, w9 = wr := ⟨_, rfl⟩
            clear hm9 hti9 hrow9 hov9 HMS HPR HKM HBOX HROW HFAR HWG8 h7all hlt hi hob1 hown hsame hsl hsa hwl9 hVl hVa hieq
            go_wp2_with fail
            go_loopw [20, 21] (fun v20 v21 wr => ∃ q : Nat, q ≤ ll.length ∧ v21 = .int .i64 q ∧ v20 = .int .i64 (isum ((ms.take q).map Sc.oLi)) ∧ Keep0 w9 wr) (fun _ v _ => ll.length - (intOf v).toNat)
            case atStart => exact ⟨0, Nat.zero_le _, rfl, by simp [isum], Keep.refl _ _⟩
            case round =>
              obtain ⟨q, hq, rfl, rfl, hk⟩ := hrel
              have HKQ := hid hk
              have qb := (hk.blk HB9.out (fun h => h)).k14
              clear hk
              by_cases hql : q < ll.length
              · have gql : ((q : Int) < (ll.length : Int)) = True := by simp; omega
                have hqm : q < ms.length := by omega
                have hqx : q < xs.length := by omega
                have hqy : q < ys.length := by omega
                have co := (HKQ.out.blk HOV9.out (fun h => h)).cell q
                rw [ovrS_get ms q hqm, decide_eq_true (H7.out q hqm)] at co
                have cz := (HKQ.out.blk HOV9.out (fun h => h)).lt
                obtain ⟨lb, lo, rfl, hlc⟩ := (HLS.out.keep (HK9.out.trans HKQ.out (fun _ _ h => h))).cell (by omega)
                have cl := hlc q hql
                have clz := World.block_lt_of_cell? _ _ cl
                simp only at clz
                have HCR := hid (fun (w' : World) (hk : Keep0 w9 w') => (show w'.cell? ⟨rb, q, none⟩ = some (ptr xs[q]) from (cell_old hk hrb9 (fun h => h) _).trans (HROW9.out q hqx)))
                have cr := HCR.out wr HKQ.out
                have crz := Nat.lt_of_lt_of_le hrb9 HKQ.out.size
                have hbd := HLSB.out q hql
                have hmd := hmodb q
                have HBX := hid (fun (w' : World) (hk : Keep0 w9 w') => hk.blk (HR9.out.blk q hqm hqx hqy).1 (fun h => h))
                have hb1 := HBD1.out q (by omega)
                have HS1 := hid (isum_take9 ms Sc.oLi q hqm)
                have HOQ := hid (HOWN.out q hqm)
                have HCL := hid (fun (w' : World) (hk : Keep0 wr w') => (show w'.cell? ⟨lb, lo + q, none⟩ = some (.int .u16 (rd ll q)) ∧ lb < w'.heap.size from ⟨(cell_old hk clz (fun h => h) _).trans cl, Nat.lt_of_lt_of_le clz hk.size⟩))
                clear hlc cl clz
                generalize isum ((ms.take q).map Sc.oLi) = SO at *
                have y1 : IntKind.i64.wrap (rd ll q) = rd ll q := IntWalk.i64_in _ (by omega)
                have y2 : (rd ll q).tmod 50 = rd ll q % 50 := Int.tmod_eq_emod_of_nonneg hbd.1
                generalize rd ll q = lq at *
                have y3 : IntKind.i64.wrap (SO + lq % 50) = SO + lq % 50 := IntWalk.i64_in _ (by omega)
                have y4 : IntKind.i64.wrap (SO + lq % 50 + 1) = SO + lq % 50 + 1 := IntWalk.i64_in _ (by omega)
                have y6 : IntKind.i64.wrap (SO - lq % 50) = SO - lq % 50 := IntWalk.i64_in _ (by omega)
                have y7 : IntKind.i64.wrap (SO - lq % 50 - 1) = SO - lq % 50 - 1 := IntWalk.i64_in _ (by omega)
                have y8 : ((q : Int)).tmod 2 = (q : Int) % 2 := Int.tmod_eq_emod_of_nonneg (by omega)
                generalize xs[q] = xq at *
                cases hbq : ms[q].bad
                · rw [hbq, if_neg (by decide)] at HOQ
                  by_cases hp2 : q % 2 = 0
                  · rw [if_pos hp2] at HOQ
                    have hq2 : ((q : Int) % 2) = 0 := by omega
                    go_wp2_with fail
                    refine (s_Ans0 (HBX.out _ HKQ.out) hbq).mono ?_
                    rintro e wa ⟨rfl, hk⟩
                    have HKA2 : Hid (Keep0 w9 wa) := hid (Keep0.step HKQ.out hk)
                    obtain ⟨cl2, cl2z⟩ := HCL.out _ hk
                    have cr2 := HCR.out _ HKA2.out
                    have cr2z := Nat.lt_of_lt_of_le hrb9 HKA2.out.size
                    clear hk
                    go_wp2_with fail
                    refine (s_Ans0 (HBX.out _ HKA2.out) hbq).mono ?_
                    rintro e wb ⟨rfl, hk⟩
                    have HKB2 : Hid (Keep0 w9 wb) := hid (Keep0.step HKA2.out hk)
                    clear hk
                    go_wp2_with fail
                    go_roundw
                    case rel => exact ⟨q + 1, by omega, by go_num, by rw [HS1.out, HOQ.out]; congr 1; omega, HKB2.out⟩
                    case measure => simp [intOf]; omega
                  · rw [if_neg hp2] at HOQ
                    have hq2 : ((q : Int) % 2) = 1 := by omega
                    go_wp2_with fail
                    refine (s_Ans0 (HBX.out _ HKQ.out) hbq).mono ?_
                    rintro e wa ⟨rfl, hk⟩
                    have HKA2 : Hid (Keep0 w9 wa) := hid (Keep0.step HKQ.out hk)
                    have hkz := hk
                    have cr2 := HCR.out _ HKA2.out
                    have cr2z := Nat.lt_of_lt_of_le hrb9 HKA2.out.size
                    clear hk
                    go_wp2_with fail
                    refine (s_Ans0 (HBX.out _ HKA2.out) hbq).mono ?_
                    rintro e wb ⟨rfl, hk⟩
                    have HKB2 : Hid (Keep0 w9 wb) := hid (Keep0.step HKA2.out hk)
                    obtain ⟨cl2, cl2z⟩ := HCL.out _ (hkz.trans hk (fun _ _ h => h))
                    clear hk
                    go_wp2_with fail
                    go_roundw
                    case rel => exact ⟨q + 1, by omega, by go_num, by rw [HS1.out, HOQ.out]; congr 1; omega, HKB2.out⟩
                    case measure => simp [intOf]; omega
                · rw [hbq, if_pos rfl] at HOQ
                  obtain ⟨ae, an, hae, hA1⟩ := s_Ans1 (HBX.out _ HKQ.out) hbq
                  have gae : (ae == 0) = false := by simpa using hae
                  have HA1 := hid hA1
                  clear hA1 hae
                  go_wp2_with fail
                  refine HA1.out.mono ?_
                  rintro e wa ⟨rfl, hk⟩
                  have HKA2 : Hid (Keep0 w9 wa) := hid (Keep0.step HKQ.out hk)
                  have cr2 := HCR.out _ HKA2.out
                  have cr2z := Nat.lt_of_lt_of_le hrb9 HKA2.out.size
                  obtain ⟨ae2, an2, hae2, hA2⟩ := s_Ans1 (HBX.out _ HKA2.out) hbq
                  have gae2 : (ae2 == 0) = false := by simpa using hae2
                  have HA2 := hid hA2
                  clear hk hA2 hae2
                  go_wp2_with fail
                  refine HA2.out.mono ?_
                  rintro e wb ⟨rfl, hk⟩
                  have HKB2 : Hid (Keep0 w9 wb) := hid (Keep0.step HKA2.out hk)
                  clear hk
                  go_wp2_with fail
                  go_roundw
                  case rel => exact ⟨q + 1, by omega, by go_num, by rw [HS1.out, HOQ.out]; congr 1; omega, HKB2.out⟩
                  case measure => simp [intOf]; omega
              · obtain rfl : q = ll.length := by omega
                have gql : ((ll.length : Int) < (ll.length : Int)) = False := by simp
                have hb1 := HBD1.out ll.length (by omega)
                rw [List.take_of_length_le (by omega)] at hb1 ⊢
                have hsl := HSL.out
                have hsa := HSA.out
                generalize isum (ms.map Sc.oLi) = SO at *
                have g1 : (rd W li == rd VV li + SO) = true := by simpa using hsl
                have g2 : (rd W av == rd VV av + SO) = true := by simpa using hsa
                have y1 : IntKind.i64.wrap (rd VV li + SO) = rd VV li + SO := IntWalk.i64_in _ (by omega)
                have y2 : IntKind.i64.wrap (rd VV av + SO) = rd VV av + SO := IntWalk.i64_in _ (by omega)
                have hwd := mem_Words (HM9.out.same HKQ.out) (by rw [HWL9.out]; omega)
                rw [HWL9.out] at hwd
                have HWD := hid hwd
                clear hsl hsa hwd
                go_wp2_with fail
                refine HWD.out.mono ?_
                rintro e wz ⟨gz, gc, rfl, hiz, hk, _⟩
                have HGZ := hid hiz
                have hwl3 : W.length = VV.length := HWL9.out
                have HGW := hid (hk.ints (HKQ.out.ints HG9.out (fun h => h)) (fun h => h))
                have HBZ := hid (hk.blk (HKQ.out.blk HB9.out (fun h => h)) (fun h => h))
                have HKZ : Hid (Keep0 w wz) := hid ((HK9.out.trans HKQ.out (fun _ _ h => h)).trans hk (fun _ _ h => h))
                have ib1 : li < VV.length := by omega
                have ib2 : av < VV.length := by omega
                clear hiz hk HWD qb HROW9 HOWN HBD1 HR9 HOV9 H7 HNS hmodb
                go_wp2_with fail
                as_aux_lemma =>
                  apply wp_region_text (WI := fun S wx => Keep0 wz wx) (by kernel_rfl) (by kernel_rfl)
                  case hob =>
                    apply Oblig.cons
                    case h =>
                      intro S w1 hwi hSi hd hcl
                      apply StepOk.intro
                      intro K hK
                      have cb := (hwi.blk HBZ.out (fun h => h)).k14
                      have c1 := (hwi.ints HGZ.out (fun h => h)).cell li (by omega)
                      have c2 := (hwi.ints HGZ.out (fun h => h)).cell av (by omega)
                      have c3 := (hwi.ints HGW.out (fun h => h)).cell li (by omega)
                      have c4 := (hwi.ints HGW.out (fun h => h)).cell av (by omega)
                      have z1 := (hwi.ints HGZ.out (fun h => h)).lt
                      have z2 := (hwi.ints HGW.out (fun h => h)).lt
                      go_simp
                      apply hK
                      · rfl
                      · conv => (lhs; whnf)
                      · exact hwi
                    simp only [put_lit, put_none, List.set_cons_succ, List.set_cons_zero]
                    apply Oblig.cons
                    case h =>
                      intro S w1 hwi hSi hd hcl
                      apply StepOk.intro
                      intro K hK
                      have cb := (hwi.blk HBZ.out (fun h => h)).k14
                      have c1 := (hwi.ints HGZ.out (fun h => h)).cell li (by omega)
                      have c2 := (hwi.ints HGZ.out (fun h => h)).cell av (by omega)
                      have c3 := (hwi.ints HGW.out (fun h => h)).cell li (by omega)
                      have c4 := (hwi.ints HGW.out (fun h => h)).cell av (by omega)
                      have z1 := (hwi.ints HGZ.out (fun h => h)).lt
                      have z2 := (hwi.ints HGW.out (fun h => h)).lt
                      go_simp
                      apply hK
                      · rfl
                      · conv => (lhs; whnf)
                      · exact hwi
                    simp only [put_lit, put_none, List.set_cons_succ, List.set_cons_zero]
                    apply Oblig.cons
                    case h =>
                      intro S w1 hwi hSi hd hcl
                      apply StepOk.intro
                      intro K hK
                      have cb := (hwi.blk HBZ.out (fun h => h)).k14
                      have c1 := (hwi.ints HGZ.out (fun h => h)).cell li (by omega)
                      have c2 := (hwi.ints HGZ.out (fun h => h)).cell av (by omega)
                      have c3 := (hwi.ints HGW.out (fun h => h)).cell li (by omega)
                      have c4 := (hwi.ints HGW.out (fun h => h)).cell av (by omega)
                      have z1 := (hwi.ints HGZ.out (fun h => h)).lt
                      have z2 := (hwi.ints HGW.out (fun h => h)).lt
                      go_simp
                      apply hK
                      · rfl
                      · conv => (lhs; whnf)
                      · exact hwi
                    simp only [put_lit, put_none, List.set_cons_succ, List.set_cons_zero]
                    apply Oblig.cons
                    case h =>
                      intro S w1 hwi hSi hd hcl
                      apply StepOk.intro
                      intro K hK
                      have cb := (hwi.blk HBZ.out (fun h => h)).k14
                      have c1 := (hwi.ints HGZ.out (fun h => h)).cell li (by omega)
                      have c2 := (hwi.ints HGZ.out (fun h => h)).cell av (by omega)
                      have c3 := (hwi.ints HGW.out (fun h => h)).cell li (by omega)
                      have c4 := (hwi.ints HGW.out (fun h => h)).cell av (by omega)
                      have z1 := (hwi.ints HGZ.out (fun h => h)).lt
                      have z2 := (hwi.ints HGW.out (fun h => h)).lt
                      go_simp
                      apply hK
                      · rfl
                      · conv => (lhs; whnf)
                      · exact hwi
                    simp only [put_lit, put_none, List.set_cons_succ, List.set_cons_zero]
                    apply Oblig.cons
                    case h =>
                      intro S w1 hwi hSi hd hcl
                      apply StepOk.intro
                      intro K hK
                      have cb := (hwi.blk HBZ.out (fun h => h)).k14
                      have c1 := (hwi.ints HGZ.out (fun h => h)).cell li (by omega)
                      have c2 := (hwi.ints HGZ.out (fun h => h)).cell av (by omega)
                      have c3 := (hwi.ints HGW.out (fun h => h)).cell li (by omega)
                      have c4 := (hwi.ints HGW.out (fun h => h)).cell av (by omega)
                      have z1 := (hwi.ints HGZ.out (fun h => h)).lt
                      have z2 := (hwi.ints HGW.out (fun h => h)).lt
                      go_simp
                      apply hK
                      · rfl
                      · conv => (lhs; whnf)
                      · exact hwi
                    simp only [put_lit, put_none, List.set_cons_succ, List.set_cons_zero]
                    apply Oblig.cons
                    case h =>
                      intro S w1 hwi hSi hd hcl
                      apply StepOk.intro
                      intro K hK
                      have cb := (hwi.blk HBZ.out (fun h => h)).k14
                      have c1 := (hwi.ints HGZ.out (fun h => h)).cell li (by omega)
                      have c2 := (hwi.ints HGZ.out (fun h => h)).cell av (by omega)
                      have c3 := (hwi.ints HGW.out (fun h => h)).cell li (by omega)
                      have c4 := (hwi.ints HGW.out (fun h => h)).cell av (by omega)
                      have z1 := (hwi.ints HGZ.out (fun h => h)).lt
                      have z2 := (hwi.ints HGW.out (fun h => h)).lt
                      go_simp
                      apply hK
                      · rfl
                      · conv => (lhs; whnf)
                      · exact hwi
                    simp only [put_lit, put_none, List.set_cons_succ, List.set_cons_zero]
                    apply Oblig.cons
                    case h =>
                      intro S w1 hwi hSi hd hcl
                      apply StepOk.intro
                      intro K hK
                      have cb := (hwi.blk HBZ.out (fun h => h)).k14
                      have c1 := (hwi.ints HGZ.out (fun h => h)).cell li (by omega)
                      have c2 := (hwi.ints HGZ.out (fun h => h)).cell av (by omega)
                      have c3 := (hwi.ints HGW.out (fun h => h)).cell li (by omega)
                      have c4 := (hwi.ints HGW.out (fun h => h)).cell av (by omega)
                      have z1 := (hwi.ints HGZ.out (fun h => h)).lt
                      have z2 := (hwi.ints HGW.out (fun h => h)).lt
                      go_simp
                      apply hK
                      · rfl
                      · conv => (lhs; whnf)
                      · exact hwi
                    simp only [put_lit, put_none, List.set_cons_succ, List.set_cons_zero]
                    apply Oblig.cons
                    case h =>
                      intro S w1 hwi hSi hd hcl
                      apply StepOk.intro
                      intro K hK
                      have cb := (hwi.blk HBZ.out (fun h => h)).k14
                      have c1 := (hwi.ints HGZ.out (fun h => h)).cell li (by omega)
                      have c2 := (hwi.ints HGZ.out (fun h => h)).cell av (by omega)
                      have c3 := (hwi.ints HGW.out (fun h => h)).cell li (by omega)
                      have c4 := (hwi.ints HGW.out (fun h => h)).cell av (by omega)
                      have z1 := (hwi.ints HGZ.out (fun h => h)).lt
                      have z2 := (hwi.ints HGW.out (fun h => h)).lt
                      go_simp
                      apply hK
                      · rfl
                      · conv => (lhs; whnf)
                      · exact hwi
                    simp only [put_lit, put_none, List.set_cons_succ, List.set_cons_zero]
                    apply Oblig.cons
                    case h =>
                      intro S w1 hwi hSi hd hcl
                      apply StepOk.intro
                      intro K hK
                      have cb := (hwi.blk HBZ.out (fun h => h)).k14
                      have c1 := (hwi.ints HGZ.out (fun h => h)).cell li (by omega)
                      have c2 := (hwi.ints HGZ.out (fun h => h)).cell av (by omega)
                      have c3 := (hwi.ints HGW.out (fun h => h)).cell li (by omega)
                      have c4 := (hwi.ints HGW.out (fun h => h)).cell av (by omega)
                      have z1 := (hwi.ints HGZ.out (fun h => h)).lt
                      have z2 := (hwi.ints HGW.out (fun h => h)).lt
                      go_simp
                      apply hK
                      · rfl
                      · conv => (lhs; whnf)
                      · exact hwi
                    simp only [put_lit, put_none, List.set_cons_succ, List.set_cons_zero]
                    apply Oblig.cons
                    case h =>
                      intro S w1 hwi hSi hd hcl
                      apply StepOk.intro
                      intro K hK
                      have cb := (hwi.blk HBZ.out (fun h => h)).k14
                      have c1 := (hwi.ints HGZ.out (fun h => h)).cell li (by omega)
                      have c2 := (hwi.ints HGZ.out (fun h => h)).cell av (by omega)
                      have c3 := (hwi.ints HGW.out (fun h => h)).cell li (by omega)
                      have c4 := (hwi.ints HGW.out (fun h => h)).cell av (by omega)
                      have z1 := (hwi.ints HGZ.out (fun h => h)).lt
                      have z2 := (hwi.ints HGW.out (fun h => h)).lt
                      go_simp
                      apply hK
                      · rfl
                      · conv => (lhs; whnf)
                      · exact hwi
                    simp only [put_lit, put_none, List.set_cons_succ, List.set_cons_zero]
                    apply Oblig.cons
                    case h =>
                      intro S w1 hwi hSi hd hcl
                      apply StepOk.intro
                      intro K hK
                      have cb := (hwi.blk HBZ.out (fun h => h)).k14
                      have c1 := (hwi.ints HGZ.out (fun h => h)).cell li (by omega)
                      have c2 := (hwi.ints HGZ.out (fun h => h)).cell av (by omega)
                      have c3 := (hwi.ints HGW.out (fun h => h)).cell li (by omega)
                      have c4 := (hwi.ints HGW.out (fun h => h)).cell av (by omega)
                      have z1 := (hwi.ints HGZ.out (fun h => h)).lt
                      have z2 := (hwi.ints HGW.out (fun h => h)).lt
                      go_simp
                      apply hK
                      · rfl
                      · conv => (lhs; whnf)
                      · exact hwi
                    simp only [put_lit, put_none, List.set_cons_succ, List.set_cons_zero]
                    apply Oblig.cons
                    case h =>
                      intro S w1 hwi hSi hd hcl
                      apply StepOk.intro
                      intro K hK
                      have cb := (hwi.blk HBZ.out (fun h => h)).k14
                      have c1 := (hwi.ints HGZ.out (fun h => h)).cell li (by omega)
                      have c2 := (hwi.ints HGZ.out (fun h => h)).cell av (by omega)
                      have c3 := (hwi.ints HGW.out (fun h => h)).cell li (by omega)
                      have c4 := (hwi.ints HGW.out (fun h => h)).cell av (by omega)
                      have z1 := (hwi.ints HGZ.out (fun h => h)).lt
                      have z2 := (hwi.ints HGW.out (fun h => h)).lt
                      go_simp
                      apply hK
                      · rfl
                      · conv => (lhs; whnf)
                      · exact hwi
                    simp only [put_lit, put_none, List.set_cons_succ, List.set_cons_zero]
                    apply Oblig.cons
                    case h =>
                      intro S w1 hwi hSi hd hcl
                      apply StepOk.intro
                      intro K hK
                      have cb := (hwi.blk HBZ.out (fun h => h)).k14
                      have c1 := (hwi.ints HGZ.out (fun h => h)).cell li (by omega)
                      have c2 := (hwi.ints HGZ.out (fun h => h)).cell av (by omega)
                      have c3 := (hwi.ints HGW.out (fun h => h)).cell li (by omega)
                      have c4 := (hwi.ints HGW.out (fun h => h)).cell av (by omega)
                      have z1 := (hwi.ints HGZ.out (fun h => h)).lt
                      have z2 := (hwi.ints HGW.out (fun h => h)).lt
                      go_simp
                      apply hK
                      · rfl
                      · conv => (lhs; whnf)
                      · exact hwi
                    simp only [put_lit, put_none, List.set_cons_succ, List.set_cons_zero]
                    apply Oblig.cons
                    case h =>
                      intro S w1 hwi hSi hd hcl
                      apply StepOk.intro
                      intro K hK
                      have cb := (hwi.blk HBZ.out (fun h => h)).k14
                      have c1 := (hwi.ints HGZ.out (fun h => h)).cell li (by omega)
                      have c2 := (hwi.ints HGZ.out (fun h => h)).cell av (by omega)
                      have c3 := (hwi.ints HGW.out (fun h => h)).cell li (by omega)
                      have c4 := (hwi.ints HGW.out (fun h => h)).cell av (by omega)
                      have z1 := (hwi.ints HGZ.out (fun h => h)).lt
                      have z2 := (hwi.ints HGW.out (fun h => h)).lt
                      go_simp
                      refine (show Calls Try.prog 16 #[.agg #[i64 t, i64 s, i64 g, i64 l, i64 r, i64 k, .slice PA P.length pc, .slice LA L.length lc], i64 v] w1 (Ret (i64 (li : Int)) w1) from by have h := ref_Limit t (s : Int) g l r k PA P.length pc LA L.length lc v w1 hs.1 hs.2 hv0 (by omega); rw [← HLI.out.1] at h; exact h).mono ?_
                      rintro e w2 ⟨rfl, hk⟩
                      apply hK
                      · rfl
                      · conv => (lhs; whnf)
                      · exact Keep0.step hwi hk
                    simp only [put_lit, put_none, List.set_cons_succ, List.set_cons_zero]
                    apply Oblig.cons
                    case h =>
                      intro S w1 hwi hSi hd hcl
                      apply StepOk.intro
                      intro K hK
                      have cb := (hwi.blk HBZ.out (fun h => h)).k14
                      have c1 := (hwi.ints HGZ.out (fun h => h)).cell li (by omega)
                      have c2 := (hwi.ints HGZ.out (fun h => h)).cell av (by omega)
                      have c3 := (hwi.ints HGW.out (fun h => h)).cell li (by omega)
                      have c4 := (hwi.ints HGW.out (fun h => h)).cell av (by omega)
                      have z1 := (hwi.ints HGZ.out (fun h => h)).lt
                      have z2 := (hwi.ints HGW.out (fun h => h)).lt
                      go_simp
                      apply hK
                      · rfl
                      · conv => (lhs; whnf)
                      · exact hwi
                    simp only [put_lit, put_none, List.set_cons_succ, List.set_cons_zero]
                    apply Oblig.cons
                    case h =>
                      intro S w1 hwi hSi hd hcl
                      apply StepOk.intro
                      intro K hK
                      have cb := (hwi.blk HBZ.out (fun h => h)).k14
                      have c1 := (hwi.ints HGZ.out (fun h => h)).cell li (by omega)
                      have c2 := (hwi.ints HGZ.out (fun h => h)).cell av (by omega)
                      have c3 := (hwi.ints HGW.out (fun h => h)).cell li (by omega)
                      have c4 := (hwi.ints HGW.out (fun h => h)).cell av (by omega)
                      have z1 := (hwi.ints HGZ.out (fun h => h)).lt
                      have z2 := (hwi.ints HGW.out (fun h => h)).lt
                      go_simp
                      apply hK
                      · rfl
                      · conv => (lhs; whnf)
                      · exact hwi
                    simp only [put_lit, put_none, List.set_cons_succ, List.set_cons_zero]
                    apply Oblig.cons
                    case h =>
                      intro S w1 hwi hSi hd hcl
                      apply StepOk.intro
                      intro K hK
                      have cb := (hwi.blk HBZ.out (fun h => h)).k14
                      have c1 := (hwi.ints HGZ.out (fun h => h)).cell li (by omega)
                      have c2 := (hwi.ints HGZ.out (fun h => h)).cell av (by omega)
                      have c3 := (hwi.ints HGW.out (fun h => h)).cell li (by omega)
                      have c4 := (hwi.ints HGW.out (fun h => h)).cell av (by omega)
                      have z1 := (hwi.ints HGZ.out (fun h => h)).lt
                      have z2 := (hwi.ints HGW.out (fun h => h)).lt
                      go_simp
                      apply hK
                      · rfl
                      · conv => (lhs; whnf)
                      · exact hwi
                    simp only [put_lit, put_none, List.set_cons_succ, List.set_cons_zero]
                    apply Oblig.cons
                    case h =>
                      intro S w1 hwi hSi hd hcl
                      apply StepOk.intro
                      intro K hK
                      have cb := (hwi.blk HBZ.out (fun h => h)).k14
                      have c1 := (hwi.ints HGZ.out (fun h => h)).cell li (by omega)
                      have c2 := (hwi.ints HGZ.out (fun h => h)).cell av (by omega)
                      have c3 := (hwi.ints HGW.out (fun h => h)).cell li (by omega)
                      have c4 := (hwi.ints HGW.out (fun h => h)).cell av (by omega)
                      have z1 := (hwi.ints HGZ.out (fun h => h)).lt
                      have z2 := (hwi.ints HGW.out (fun h => h)).lt
                      go_simp
                      apply hK
                      · rfl
                      · conv => (lhs; whnf)
                      · exact hwi
                    simp only [put_lit, put_none, List.set_cons_succ, List.set_cons_zero]
                    apply Oblig.cons
                    case h =>
                      intro S w1 hwi hSi hd hcl
                      apply StepOk.intro
                      intro K hK
                      have cb := (hwi.blk HBZ.out (fun h => h)).k14
                      have c1 := (hwi.ints HGZ.out (fun h => h)).cell li (by omega)
                      have c2 := (hwi.ints HGZ.out (fun h => h)).cell av (by omega)
                      have c3 := (hwi.ints HGW.out (fun h => h)).cell li (by omega)
                      have c4 := (hwi.ints HGW.out (fun h => h)).cell av (by omega)
                      have z1 := (hwi.ints HGZ.out (fun h => h)).lt
                      have z2 := (hwi.ints HGW.out (fun h => h)).lt
                      go_simp
                      apply hK
                      · rfl
                      · conv => (lhs; whnf)
                      · exact hwi
                    simp only [put_lit, put_none, List.set_cons_succ, List.set_cons_zero]
                    apply Oblig.cons
                    case h =>
                      intro S w1 hwi hSi hd hcl
                      apply StepOk.intro
                      intro K hK
                      have cb := (hwi.blk HBZ.out (fun h => h)).k14
                      have c1 := (hwi.ints HGZ.out (fun h => h)).cell li (by omega)
                      have c2 := (hwi.ints HGZ.out (fun h => h)).cell av (by omega)
                      have c3 := (hwi.ints HGW.out (fun h => h)).cell li (by omega)
                      have c4 := (hwi.ints HGW.out (fun h => h)).cell av (by omega)
                      have z1 := (hwi.ints HGZ.out (fun h => h)).lt
                      have z2 := (hwi.ints HGW.out (fun h => h)).lt
                      go_simp
                      apply hK
                      · rfl
                      · conv => (lhs; whnf)
                      · exact hwi
                    simp only [put_lit, put_none, List.set_cons_succ, List.set_cons_zero]
                    apply Oblig.cons
                    case h =>
                      intro S w1 hwi hSi hd hcl
                      apply StepOk.intro
                      intro K hK
                      have cb := (hwi.blk HBZ.out (fun h => h)).k14
                      have c1 := (hwi.ints HGZ.out (fun h => h)).cell li (by omega)
                      have c2 := (hwi.ints HGZ.out (fun h => h)).cell av (by omega)
                      have c3 := (hwi.ints HGW.out (fun h => h)).cell li (by omega)
                      have c4 := (hwi.ints HGW.out (fun h => h)).cell av (by omega)
                      have z1 := (hwi.ints HGZ.out (fun h => h)).lt
                      have z2 := (hwi.ints HGW.out (fun h => h)).lt
                      go_simp
                      refine (show Calls Try.prog 16 #[.agg #[i64 t, i64 s, i64 g, i64 l, i64 r, i64 k, .slice PA P.length pc, .slice LA L.length lc], i64 v] w1 (Ret (i64 (li : Int)) w1) from by have h := ref_Limit t (s : Int) g l r k PA P.length pc LA L.length lc v w1 hs.1 hs.2 hv0 (by omega); rw [← HLI.out.1] at h; exact h).mono ?_
                      rintro e w2 ⟨rfl, hk⟩
                      apply hK
                      · rfl
                      · conv => (lhs; whnf)
                      · exact Keep0.step hwi hk
                    simp only [put_lit, put_none, List.set_cons_succ, List.set_cons_zero]
                    apply Oblig.cons
                    case h =>
                      intro S w1 hwi hSi hd hcl
                      apply StepOk.intro
                      intro K hK
                      have cb := (hwi.blk HBZ.out (fun h => h)).k14
                      have c1 := (hwi.ints HGZ.out (fun h => h)).cell li (by omega)
                      have c2 := (hwi.ints HGZ.out (fun h => h)).cell av (by omega)
                      have c3 := (hwi.ints HGW.out (fun h => h)).cell li (by omega)
                      have c4 := (hwi.ints HGW.out (fun h => h)).cell av (by omega)
                      have z1 := (hwi.ints HGZ.out (fun h => h)).lt
                      have z2 := (hwi.ints HGW.out (fun h => h)).lt
                      go_simp
                      apply hK
                      · rfl
                      · conv => (lhs; whnf)
                      · exact hwi
                    simp only [put_lit, put_none, List.set_cons_succ, List.set_cons_zero]
                    apply Oblig.cons
                    case h =>
                      intro S w1 hwi hSi hd hcl
                      apply StepOk.intro
                      intro K hK
                      have cb := (hwi.blk HBZ.out (fun h => h)).k14
                      have c1 := (hwi.ints HGZ.out (fun h => h)).cell li (by omega)
                      have c2 := (hwi.ints HGZ.out (fun h => h)).cell av (by omega)
                      have c3 := (hwi.ints HGW.out (fun h => h)).cell li (by omega)
                      have c4 := (hwi.ints HGW.out (fun h => h)).cell av (by omega)
                      have z1 := (hwi.ints HGZ.out (fun h => h)).lt
                      have z2 := (hwi.ints HGW.out (fun h => h)).lt
                      go_simp
                      apply hK
                      · rfl
                      · conv => (lhs; whnf)
                      · exact hwi
                    simp only [put_lit, put_none, List.set_cons_succ, List.set_cons_zero]
                    apply Oblig.cons
                    case h =>
                      intro S w1 hwi hSi hd hcl
                      apply StepOk.intro
                      intro K hK
                      have cb := (hwi.blk HBZ.out (fun h => h)).k14
                      have c1 := (hwi.ints HGZ.out (fun h => h)).cell li (by omega)
                      have c2 := (hwi.ints HGZ.out (fun h => h)).cell av (by omega)
                      have c3 := (hwi.ints HGW.out (fun h => h)).cell li (by omega)
                      have c4 := (hwi.ints HGW.out (fun h => h)).cell av (by omega)
                      have z1 := (hwi.ints HGZ.out (fun h => h)).lt
                      have z2 := (hwi.ints HGW.out (fun h => h)).lt
                      go_simp
                      apply hK
                      · rfl
                      · conv => (lhs; whnf)
                      · exact hwi
                    simp only [put_lit, put_none, List.set_cons_succ, List.set_cons_zero]
                    apply Oblig.cons
                    case h =>
                      intro S w1 hwi hSi hd hcl
                      apply StepOk.intro
                      intro K hK
                      have cb := (hwi.blk HBZ.out (fun h => h)).k14
                      have c1 := (hwi.ints HGZ.out (fun h => h)).cell li (by omega)
                      have c2 := (hwi.ints HGZ.out (fun h => h)).cell av (by omega)
                      have c3 := (hwi.ints HGW.out (fun h => h)).cell li (by omega)
                      have c4 := (hwi.ints HGW.out (fun h => h)).cell av (by omega)
                      have z1 := (hwi.ints HGZ.out (fun h => h)).lt
                      have z2 := (hwi.ints HGW.out (fun h => h)).lt
                      go_simp
                      apply hK
                      · rfl
                      · conv => (lhs; whnf)
                      · exact hwi
                    simp only [put_lit, put_none, List.set_cons_succ, List.set_cons_zero]
                    apply Oblig.cons
                    case h =>
                      intro S w1 hwi hSi hd hcl
                      apply StepOk.intro
                      intro K hK
                      have cb := (hwi.blk HBZ.out (fun h => h)).k14
                      have c1 := (hwi.ints HGZ.out (fun h => h)).cell li (by omega)
                      have c2 := (hwi.ints HGZ.out (fun h => h)).cell av (by omega)
                      have c3 := (hwi.ints HGW.out (fun h => h)).cell li (by omega)
                      have c4 := (hwi.ints HGW.out (fun h => h)).cell av (by omega)
                      have z1 := (hwi.ints HGZ.out (fun h => h)).lt
                      have z2 := (hwi.ints HGW.out (fun h => h)).lt
                      go_simp
                      apply hK
                      · rfl
                      · conv => (lhs; whnf)
                      · exact hwi
                    simp only [put_lit, put_none, List.set_cons_succ, List.set_cons_zero]
                    apply Oblig.cons
                    case h =>
                      intro S w1 hwi hSi hd hcl
                      apply StepOk.intro
                      intro K hK
                      have cb := (hwi.blk HBZ.out (fun h => h)).k14
                      have c1 := (hwi.ints HGZ.out (fun h => h)).cell li (by omega)
                      have c2 := (hwi.ints HGZ.out (fun h => h)).cell av (by omega)
                      have c3 := (hwi.ints HGW.out (fun h => h)).cell li (by omega)
                      have c4 := (hwi.ints HGW.out (fun h => h)).cell av (by omega)
                      have z1 := (hwi.ints HGZ.out (fun h => h)).lt
                      have z2 := (hwi.ints HGW.out (fun h => h)).lt
                      go_simp
                      apply hK
                      · rfl
                      · conv => (lhs; whnf)
                      · exact hwi
                    simp only [put_lit, put_none, List.set_cons_succ, List.set_cons_zero]
                    apply Oblig.cons
                    case h =>
                      intro S w1 hwi hSi hd hcl
                      apply StepOk.intro
                      intro K hK
                      have cb := (hwi.blk HBZ.out (fun h => h)).k14
                      have c1 := (hwi.ints HGZ.out (fun h => h)).cell li (by omega)
                      have c2 := (hwi.ints HGZ.out (fun h => h)).cell av (by omega)
                      have c3 := (hwi.ints HGW.out (fun h => h)).cell li (by omega)
                      have c4 := (hwi.ints HGW.out (fun h => h)).cell av (by omega)
                      have z1 := (hwi.ints HGZ.out (fun h => h)).lt
                      have z2 := (hwi.ints HGW.out (fun h => h)).lt
                      go_simp
                      apply hK
                      · rfl
                      · conv => (lhs; whnf)
                      · exact hwi
                    simp only [put_lit, put_none, List.set_cons_succ, List.set_cons_zero]
                    apply Oblig.cons
                    case h =>
                      intro S w1 hwi hSi hd hcl
                      apply StepOk.intro
                      intro K hK
                      have cb := (hwi.blk HBZ.out (fun h => h)).k14
                      have c1 := (hwi.ints HGZ.out (fun h => h)).cell li (by omega)
                      have c2 := (hwi.ints HGZ.out (fun h => h)).cell av (by omega)
                      have c3 := (hwi.ints HGW.out (fun h => h)).cell li (by omega)
                      have c4 := (hwi.ints HGW.out (fun h => h)).cell av (by omega)
                      have z1 := (hwi.ints HGZ.out (fun h => h)).lt
                      have z2 := (hwi.ints HGW.out (fun h => h)).lt
                      go_simp
                      apply hK
                      · rfl
                      · conv => (lhs; whnf)
                      · exact hwi
                    simp only [put_lit, put_none, List.set_cons_succ, List.set_cons_zero]
                    apply Oblig.cons
                    case h =>
                      intro S w1 hwi hSi hd hcl
                      apply StepOk.intro
                      intro K hK
                      have cb := (hwi.blk HBZ.out (fun h => h)).k14
                      have c1 := (hwi.ints HGZ.out (fun h => h)).cell li (by omega)
                      have c2 := (hwi.ints HGZ.out (fun h => h)).cell av (by omega)
                      have c3 := (hwi.ints HGW.out (fun h => h)).cell li (by omega)
                      have c4 := (hwi.ints HGW.out (fun h => h)).cell av (by omega)
                      have z1 := (hwi.ints HGZ.out (fun h => h)).lt
                      have z2 := (hwi.ints HGW.out (fun h => h)).lt
                      go_simp
                      apply hK
                      · rfl
                      · conv => (lhs; whnf)
                      · exact hwi
                    simp only [put_lit, put_none, List.set_cons_succ, List.set_cons_zero]
                    apply Oblig.cons
                    case h =>
                      intro S w1 hwi hSi hd hcl
                      apply StepOk.intro
                      intro K hK
                      have cb := (hwi.blk HBZ.out (fun h => h)).k14
                      have c1 := (hwi.ints HGZ.out (fun h => h)).cell li (by omega)
                      have c2 := (hwi.ints HGZ.out (fun h => h)).cell av (by omega)
                      have c3 := (hwi.ints HGW.out (fun h => h)).cell li (by omega)
                      have c4 := (hwi.ints HGW.out (fun h => h)).cell av (by omega)
                      have z1 := (hwi.ints HGZ.out (fun h => h)).lt
                      have z2 := (hwi.ints HGW.out (fun h => h)).lt
                      go_simp
                      apply hK
                      · rfl
                      · conv => (lhs; whnf)
                      · exact hwi
                    simp only [put_lit, put_none, List.set_cons_succ, List.set_cons_zero]
                    apply Oblig.cons
                    case h =>
                      intro S w1 hwi hSi hd hcl
                      apply StepOk.intro
                      intro K hK
                      have cb := (hwi.blk HBZ.out (fun h => h)).k14
                      have c1 := (hwi.ints HGZ.out (fun h => h)).cell li (by omega)
                      have c2 := (hwi.ints HGZ.out (fun h => h)).cell av (by omega)
                      have c3 := (hwi.ints HGW.out (fun h => h)).cell li (by omega)
                      have c4 := (hwi.ints HGW.out (fun h => h)).cell av (by omega)
                      have z1 := (hwi.ints HGZ.out (fun h => h)).lt
                      have z2 := (hwi.ints HGW.out (fun h => h)).lt
                      go_simp
                      apply hK
                      · rfl
                      · conv => (lhs; whnf)
                      · exact hwi
                    simp only [put_lit, put_none, List.set_cons_succ, List.set_cons_zero]
                    apply Oblig.cons
                    case h =>
                      intro S w1 hwi hSi hd hcl
                      apply StepOk.intro
                      intro K hK
                      have cb := (hwi.blk HBZ.out (fun h => h)).k14
                      have c1 := (hwi.ints HGZ.out (fun h => h)).cell li (by omega)
                      have c2 := (hwi.ints HGZ.out (fun h => h)).cell av (by omega)
                      have c3 := (hwi.ints HGW.out (fun h => h)).cell li (by omega)
                      have c4 := (hwi.ints HGW.out (fun h => h)).cell av (by omega)
                      have z1 := (hwi.ints HGZ.out (fun h => h)).lt
                      have z2 := (hwi.ints HGW.out (fun h => h)).lt
                      go_simp
                      refine (show Calls Try.prog 17 #[.agg #[i64 t, i64 s, i64 g, i64 l, i64 r, i64 k, .slice PA P.length pc, .slice LA L.length lc], i64 v] w1 (Ret (i64 (av : Int)) w1) from by have h := ref_Avail t (s : Int) g l r k PA P.length pc LA L.length lc v w1 hs.1 hs.2 hv0 (by omega); rw [← HAV.out] at h; exact h).mono ?_
                      rintro e w2 ⟨rfl, hk⟩
                      apply hK
                      · rfl
                      · conv => (lhs; whnf)
                      · exact Keep0.step hwi hk
                    simp only [put_lit, put_none, List.set_cons_succ, List.set_cons_zero]
                    apply Oblig.cons
                    case h =>
                      intro S w1 hwi hSi hd hcl
                      apply StepOk.intro
                      intro K hK
                      have cb := (hwi.blk HBZ.out (fun h => h)).k14
                      have c1 := (hwi.ints HGZ.out (fun h => h)).cell li (by omega)
                      have c2 := (hwi.ints HGZ.out (fun h => h)).cell av (by omega)
                      have c3 := (hwi.ints HGW.out (fun h => h)).cell li (by omega)
                      have c4 := (hwi.ints HGW.out (fun h => h)).cell av (by omega)
                      have z1 := (hwi.ints HGZ.out (fun h => h)).lt
                      have z2 := (hwi.ints HGW.out (fun h => h)).lt
                      go_simp
                      apply hK
                      · rfl
                      · conv => (lhs; whnf)
                      · exact hwi
                    simp only [put_lit, put_none, List.set_cons_succ, List.set_cons_zero]
                    apply Oblig.cons
                    case h =>
                      intro S w1 hwi hSi hd hcl
                      apply StepOk.intro
                      intro K hK
                      have cb := (hwi.blk HBZ.out (fun h => h)).k14
                      have c1 := (hwi.ints HGZ.out (fun h => h)).cell li (by omega)
                      have c2 := (hwi.ints HGZ.out (fun h => h)).cell av (by omega)
                      have c3 := (hwi.ints HGW.out (fun h => h)).cell li (by omega)
                      have c4 := (hwi.ints HGW.out (fun h => h)).cell av (by omega)
                      have z1 := (hwi.ints HGZ.out (fun h => h)).lt
                      have z2 := (hwi.ints HGW.out (fun h => h)).lt
                      go_simp
                      apply hK
                      · rfl
                      · conv => (lhs; whnf)
                      · exact hwi
                    simp only [put_lit, put_none, List.set_cons_succ, List.set_cons_zero]
                    apply Oblig.cons
                    case h =>
                      intro S w1 hwi hSi hd hcl
                      apply StepOk.intro
                      intro K hK
                      have cb := (hwi.blk HBZ.out (fun h => h)).k14
                      have c1 := (hwi.ints HGZ.out (fun h => h)).cell li (by omega)
                      have c2 := (hwi.ints HGZ.out (fun h => h)).cell av (by omega)
                      have c3 := (hwi.ints HGW.out (fun h => h)).cell li (by omega)
                      have c4 := (hwi.ints HGW.out (fun h => h)).cell av (by omega)
                      have z1 := (hwi.ints HGZ.out (fun h => h)).lt
                      have z2 := (hwi.ints HGW.out (fun h => h)).lt
                      go_simp
                      apply hK
                      · rfl
                      · conv => (lhs; whnf)
                      · exact hwi
                    simp only [put_lit, put_none, List.set_cons_succ, List.set_cons_zero]
                    apply Oblig.cons
                    case h =>
                      intro S w1 hwi hSi hd hcl
                      apply StepOk.intro
                      intro K hK
                      have cb := (hwi.blk HBZ.out (fun h => h)).k14
                      have c1 := (hwi.ints HGZ.out (fun h => h)).cell li (by omega)
                      have c2 := (hwi.ints HGZ.out (fun h => h)).cell av (by omega)
                      have c3 := (hwi.ints HGW.out (fun h => h)).cell li (by omega)
                      have c4 := (hwi.ints HGW.out (fun h => h)).cell av (by omega)
                      have z1 := (hwi.ints HGZ.out (fun h => h)).lt
                      have z2 := (hwi.ints HGW.out (fun h => h)).lt
                      go_simp
                      apply hK
                      · rfl
                      · conv => (lhs; whnf)
                      · exact hwi
                    simp only [put_lit, put_none, List.set_cons_succ, List.set_cons_zero]
                    apply Oblig.cons
                    case h =>
                      intro S w1 hwi hSi hd hcl
                      apply StepOk.intro
                      intro K hK
                      have cb := (hwi.blk HBZ.out (fun h => h)).k14
                      have c1 := (hwi.ints HGZ.out (fun h => h)).cell li (by omega)
                      have c2 := (hwi.ints HGZ.out (fun h => h)).cell av (by omega)
                      have c3 := (hwi.ints HGW.out (fun h => h)).cell li (by omega)
                      have c4 := (hwi.ints HGW.out (fun h => h)).cell av (by omega)
                      have z1 := (hwi.ints HGZ.out (fun h => h)).lt
                      have z2 := (hwi.ints HGW.out (fun h => h)).lt
                      go_simp
                      apply hK
                      · rfl
                      · conv => (lhs; whnf)
                      · exact hwi
                    simp only [put_lit, put_none, List.set_cons_succ, List.set_cons_zero]
                    apply Oblig.cons
                    case h =>
                      intro S w1 hwi hSi hd hcl
                      apply StepOk.intro
                      intro K hK
                      have cb := (hwi.blk HBZ.out (fun h => h)).k14
                      have c1 := (hwi.ints HGZ.out (fun h => h)).cell li (by omega)
                      have c2 := (hwi.ints HGZ.out (fun h => h)).cell av (by omega)
                      have c3 := (hwi.ints HGW.out (fun h => h)).cell li (by omega)
                      have c4 := (hwi.ints HGW.out (fun h => h)).cell av (by omega)
                      have z1 := (hwi.ints HGZ.out (fun h => h)).lt
                      have z2 := (hwi.ints HGW.out (fun h => h)).lt
                      go_simp
                      apply hK
                      · rfl
                      · conv => (lhs; whnf)
                      · exact hwi
                    simp only [put_lit, put_none, List.set_cons_succ, List.set_cons_zero]
                    apply Oblig.cons
                    case h =>
                      intro S w1 hwi hSi hd hcl
                      apply StepOk.intro
                      intro K hK
                      have cb := (hwi.blk HBZ.out (fun h => h)).k14
                      have c1 := (hwi.ints HGZ.out (fun h => h)).cell li (by omega)
                      have c2 := (hwi.ints HGZ.out (fun h => h)).cell av (by omega)
                      have c3 := (hwi.ints HGW.out (fun h => h)).cell li (by omega)
                      have c4 := (hwi.ints HGW.out (fun h => h)).cell av (by omega)
                      have z1 := (hwi.ints HGZ.out (fun h => h)).lt
                      have z2 := (hwi.ints HGW.out (fun h => h)).lt
                      go_simp
                      refine (show Calls Try.prog 17 #[.agg #[i64 t, i64 s, i64 g, i64 l, i64 r, i64 k, .slice PA P.length pc, .slice LA L.length lc], i64 v] w1 (Ret (i64 (av : Int)) w1) from by have h := ref_Avail t (s : Int) g l r k PA P.length pc LA L.length lc v w1 hs.1 hs.2 hv0 (by omega); rw [← HAV.out] at h; exact h).mono ?_
                      rintro e w2 ⟨rfl, hk⟩
                      apply hK
                      · rfl
                      · conv => (lhs; whnf)
                      · exact Keep0.step hwi hk
                    simp only [put_lit, put_none, List.set_cons_succ, List.set_cons_zero]
                    apply Oblig.cons
                    case h =>
                      intro S w1 hwi hSi hd hcl
                      apply StepOk.intro
                      intro K hK
                      have cb := (hwi.blk HBZ.out (fun h => h)).k14
                      have c1 := (hwi.ints HGZ.out (fun h => h)).cell li (by omega)
                      have c2 := (hwi.ints HGZ.out (fun h => h)).cell av (by omega)
                      have c3 := (hwi.ints HGW.out (fun h => h)).cell li (by omega)
                      have c4 := (hwi.ints HGW.out (fun h => h)).cell av (by omega)
                      have z1 := (hwi.ints HGZ.out (fun h => h)).lt
                      have z2 := (hwi.ints HGW.out (fun h => h)).lt
                      go_simp
                      apply hK
                      · rfl
                      · conv => (lhs; whnf)
                      · exact hwi
                    simp only [put_lit, put_none, List.set_cons_succ, List.set_cons_zero]
                    apply Oblig.cons
                    case h =>
                      intro S w1 hwi hSi hd hcl
                      apply StepOk.intro
                      intro K hK
                      have cb := (hwi.blk HBZ.out (fun h => h)).k14
                      have c1 := (hwi.ints HGZ.out (fun h => h)).cell li (by omega)
                      have c2 := (hwi.ints HGZ.out (fun h => h)).cell av (by omega)
                      have c3 := (hwi.ints HGW.out (fun h => h)).cell li (by omega)
                      have c4 := (hwi.ints HGW.out (fun h => h)).cell av (by omega)
                      have z1 := (hwi.ints HGZ.out (fun h => h)).lt
                      have z2 := (hwi.ints HGW.out (fun h => h)).lt
                      go_simp
                      apply hK
                      · rfl
                      · conv => (lhs; whnf)
                      · exact hwi
                    simp only [put_lit, put_none, List.set_cons_succ, List.set_cons_zero]
                    apply Oblig.cons
                    case h =>
                      intro S w1 hwi hSi hd hcl
                      apply StepOk.intro
                      intro K hK
                      have cb := (hwi.blk HBZ.out (fun h => h)).k14
                      have c1 := (hwi.ints HGZ.out (fun h => h)).cell li (by omega)
                      have c2 := (hwi.ints HGZ.out (fun h => h)).cell av (by omega)
                      have c3 := (hwi.ints HGW.out (fun h => h)).cell li (by omega)
                      have c4 := (hwi.ints HGW.out (fun h => h)).cell av (by omega)
                      have z1 := (hwi.ints HGZ.out (fun h => h)).lt
                      have z2 := (hwi.ints HGW.out (fun h => h)).lt
                      go_simp
                      apply hK
                      · rfl
                      · conv => (lhs; whnf)
                      · exact hwi
                    simp only [put_lit, put_none, List.set_cons_succ, List.set_cons_zero]
                    apply Oblig.cons
                    case h =>
                      intro S w1 hwi hSi hd hcl
                      apply StepOk.intro
                      intro K hK
                      have cb := (hwi.blk HBZ.out (fun h => h)).k14
                      have c1 := (hwi.ints HGZ.out (fun h => h)).cell li (by omega)
                      have c2 := (hwi.ints HGZ.out (fun h => h)).cell av (by omega)
                      have c3 := (hwi.ints HGW.out (fun h => h)).cell li (by omega)
                      have c4 := (hwi.ints HGW.out (fun h => h)).cell av (by omega)
                      have z1 := (hwi.ints HGZ.out (fun h => h)).lt
                      have z2 := (hwi.ints HGW.out (fun h => h)).lt
                      go_simp
                      apply hK
                      · rfl
                      · conv => (lhs; whnf)
                      · exact hwi
                    simp only [put_lit, put_none, List.set_cons_succ, List.set_cons_zero]
                    apply Oblig.cons
                    case h =>
                      intro S w1 hwi hSi hd hcl
                      apply StepOk.intro
                      intro K hK
                      have cb := (hwi.blk HBZ.out (fun h => h)).k14
                      have c1 := (hwi.ints HGZ.out (fun h => h)).cell li (by omega)
                      have c2 := (hwi.ints HGZ.out (fun h => h)).cell av (by omega)
                      have c3 := (hwi.ints HGW.out (fun h => h)).cell li (by omega)
                      have c4 := (hwi.ints HGW.out (fun h => h)).cell av (by omega)
                      have z1 := (hwi.ints HGZ.out (fun h => h)).lt
                      have z2 := (hwi.ints HGW.out (fun h => h)).lt
                      go_simp
                      apply hK
                      · rfl
                      · conv => (lhs; whnf)
                      · exact hwi
                    simp only [put_lit, put_none, List.set_cons_succ, List.set_cons_zero]
                    apply Oblig.cons
                    case h =>
                      intro S w1 hwi hSi hd hcl
                      apply StepOk.intro
                      intro K hK
                      have cb := (hwi.blk HBZ.out (fun h => h)).k14
                      have c1 := (hwi.ints HGZ.out (fun h => h)).cell li (by omega)
                      have c2 := (hwi.ints HGZ.out (fun h => h)).cell av (by omega)
                      have c3 := (hwi.ints HGW.out (fun h => h)).cell li (by omega)
                      have c4 := (hwi.ints HGW.out (fun h => h)).cell av (by omega)
                      have z1 := (hwi.ints HGZ.out (fun h => h)).lt
                      have z2 := (hwi.ints HGW.out (fun h => h)).lt
                      go_simp
                      apply hK
                      · rfl
                      · conv => (lhs; whnf)
                      · exact hwi
                    simp only [put_lit, put_none, List.set_cons_succ, List.set_cons_zero]
                    apply Oblig.cons
                    case h =>
                      intro S w1 hwi hSi hd hcl
                      apply StepOk.intro
                      intro K hK
                      have cb := (hwi.blk HBZ.out (fun h => h)).k14
                      have c1 := (hwi.ints HGZ.out (fun h => h)).cell li (by omega)
                      have c2 := (hwi.ints HGZ.out (fun h => h)).cell av (by omega)
                      have c3 := (hwi.ints HGW.out (fun h => h)).cell li (by omega)
                      have c4 := (hwi.ints HGW.out (fun h => h)).cell av (by omega)
                      have z1 := (hwi.ints HGZ.out (fun h => h)).lt
                      have z2 := (hwi.ints HGW.out (fun h => h)).lt
                      go_simp
                      apply hK
                      · rfl
                      · conv => (lhs; whnf)
                      · exact hwi
                    simp only [put_lit, put_none, List.set_cons_succ, List.set_cons_zero]
                    exact Oblig.nil
                  case h0 =>
                    exact (Keep.refl _ _).drew
                  case hend =>
                    intro S wx hwi hall
                    have HKX := hid hwi
                    clear hwi hall
                    go_wp2_with fail
                    go_ret
                    exact ⟨rfl, HKZ.out.trans HKX.out (fun _ _ h => h)⟩
end Go.Proofs.Ytonekdolmbdniaa
