/- Contracts and plain laws for UsageTells, part 14: what the walk of the law leans on. -/
import Derived.Deep.Slices
import Derived.Deep.Fields
import Derived.ChangeSame
import Derived.Test.YthaceckccobgeaaGreatZUsageTells3
import Derived.Test.YthaceckccobgeaaGreatZUsageTells4
import Derived.Test.YthaceckccobgeaaGreatZUsageTells5
import Derived.Test.YthaceckccobgeaaGreatZUsageTells11
import Derived.Test.YthaceckccobgeaaGreatZUsageTells13
namespace Go.Proofs.YthaceckccobgeaaGreat
open Go.RowKit
set_option linter.unusedVariables false
set_option linter.unusedSimpArgs false
set_option maxRecDepth 100000
set_option maxHeartbeats 1000000 in
theorem ref10_BodyA (a b : Int) (w : World) (ha : 0 ≤ a ∧ a < 4398046511104) (hb : 0 ≤ b ∧ b < 2097152) : Calls Tryz.prog 58 #[i64 a, i64 b] w (fun e w' => e = .returned (.tuple (if bodyOK a b = true then #[i64 (a * 2097152 + b), .bool true] else #[i64 0, .bool false])) ∧ w = w') := by
 have y1 : IntKind.i64.wrap (a * 2097152) = a * 2097152 := IntWalk.i64_in _ (by omega)
 have y2 : IntKind.i64.wrap (a * 2097152 + b) = a * 2097152 + b := IntWalk.i64_in _ (by omega)
 have g1 : decide (a < 0) = false := decide_eq_false (by omega)
 by_cases g2 : a < 12
 · have e2 : decide (12 ≤ a) = false := decide_eq_false (by omega)
   by_cases g3 : 1 ≤ b
   · have e3 : decide (b < 1) = false := decide_eq_false (by omega)
     by_cases g4 : b ≤ 1048576
     · have e4 : decide (1048576 < b) = false := decide_eq_false (by omega)
       rw [show bodyOK a b = true from by unfold bodyOK; simp; omega]
       clear g2 g3 g4
       go_enter Tryz.func58, Tryz.ntmps58
       go_wp2_with fail
       go_ret2
       exact ⟨rfl, rfl⟩
     · have e4 : decide (1048576 < b) = true := decide_eq_true (by omega)
       rw [show bodyOK a b = false from by unfold bodyOK; simp; omega]
       clear g2 g3 g4
       go_enter Tryz.func58, Tryz.ntmps58
       go_wp2_with fail
       go_ret2
       exact ⟨rfl, rfl⟩
   · have e3 : decide (b < 1) = true := decide_eq_true (by omega)
     rw [show bodyOK a b = false from by unfold bodyOK; simp; omega]
     clear g2 g3
     go_enter Tryz.func58, Tryz.ntmps58
     go_wp2_with fail
     go_ret2
     exact ⟨rfl, rfl⟩
 · have e2 : decide (12 ≤ a) = true := decide_eq_true (by omega)
   rw [show bodyOK a b = false from by unfold bodyOK; simp; omega]
   clear g2
   go_enter Tryz.func58, Tryz.ntmps58
   go_wp2_with fail
   go_ret2
   exact ⟨rfl, rfl⟩
set_option maxHeartbeats 2000000 in
theorem ref10_Of (v : Int) (w : World) (hv : v ≤ 9223372036854775807) : Calls Tryz.prog 70 #[i64 v] w (fun e w' => e = .returned (.tuple (if bodyOK (v / 2097152) (v % 2097152) = true then #[i64 (v / 2097152), i64 (v % 2097152), .bool true] else #[i64 0, i64 0, .bool false])) ∧ Keep0 w w') := by
 by_cases h0 : v < 0
 · rw [show bodyOK (v / 2097152) (v % 2097152) = false from by unfold bodyOK; simp; omega]
   have g0 : decide (v < 0) = true := decide_eq_true h0
   go_enter Tryz.func70, Tryz.ntmps70
   go_wp2_with fail
   go_ret3
   exact ⟨rfl, by repeat (with_reducible first | exact Keep.refl _ _ | apply Keep.alloc | apply Keep.drewN | apply Keep.drew)⟩
 · have g0 : decide (v < 0) = false := decide_eq_false h0
   have y1 : v.tmod 2097152 = v % 2097152 := Int.tmod_eq_emod_of_nonneg (by omega)
   have HBO := hid (fun w1 => ref10_BodyA (v / 2097152) (v % 2097152) w1 (by omega) (by omega))
   have he : v / 2097152 * 2097152 + v % 2097152 = v := by omega
   rw [he] at HBO
   clear he
   go_enter Tryz.func70, Tryz.ntmps70
   cases hb : bodyOK (v / 2097152) (v % 2097152) with
   | false =>
    rw [hb] at HBO
    clear hb
    go_wp2_with fail
    refine (HBO.out _).mono ?_
    rintro e w1 ⟨rfl, rfl⟩
    go_wp2_with fail
    go_ret3
    exact ⟨rfl, by repeat (with_reducible first | exact Keep.refl _ _ | apply Keep.alloc | apply Keep.drewN | apply Keep.drew)⟩
   | true =>
    rw [hb] at HBO
    clear hb
    go_wp2_with fail
    refine (HBO.out _).mono ?_
    rintro e w1 ⟨rfl, rfl⟩
    go_wp2_with fail
    go_ret3
    exact ⟨rfl, by repeat (with_reducible first | exact Keep.refl _ _ | apply Keep.alloc | apply Keep.drewN | apply Keep.drew)⟩
set_option maxHeartbeats 4000000 in
theorem r14_Live (t g lm r : Int) (s K : Nat) (P : List Int) (pb po pc : Nat) (LA : Option Addr) (ln lc : Nat) (W : List Int) (wb wo wc q k : Nat) (w : World) (hs : 1 ≤ s ∧ s ≤ 8) (hK : K ≤ 100) (h0 : 0 < P.length) (hp : P.length ≤ 1000) (hq : q = P.length * (6 + 2 * s)) (hk : q + 2 * k + 2 ≤ W.length) (hk1 : k ≤ 1000) (hWb : W.length ≤ 1000000) (hw9 : ∀ i, rd W i ≤ 9223372036854775807) (hW : ∀ i, i < W.length → w.cell? ⟨wb, wo + i, none⟩ = some (i64 (rd W i))) :
 Calls Tryz.prog 21 #[.agg #[i64 t, i64 (s : Int), i64 g, i64 lm, i64 r, i64 (K : Int), .slice (some ⟨pb, po, none⟩) P.length pc, .slice LA ln lc], .slice (some ⟨wb, wo, none⟩) W.length wc, i64 (k : Int)] w (Ret (.tuple #[i64 (lvV P.length W (q + 2 * k) : Nat), i64 (lvN P.length W (q + 2 * k)), .bool (lvB P.length W (q + 2 * k))]) w) := by
 have HW := hid hW
 clear hW
 have hqq : (q : Int) = P.length * (6 + 2 * (s : Int)) := by rw [hq]; push_cast; rfl
 clear hq
 have hqk : ((q + 2 * k : Nat) : Int) = P.length * (6 + 2 * (s : Int)) + 2 * (k : Int) := by push_cast; rw [hqq]
 have HTK := hid (fun w' => ref_Ticket t (s : Int) g lm r (K : Int) (some ⟨pb, po, none⟩) P.length pc LA ln lc (k : Int) w' (by omega) (by omega) (by omega) (by omega) hp)
 rw [← hqk] at HTK
 have hX0 : q + 2 * k < W.length := by omega
 have hX1 : q + 2 * k + 1 < W.length := by omega
 clear hqk hqq hk hk1
 generalize q + 2 * k = at_ at *
 have HC0 := hid (HW.out at_ hX0)
 have HC1 := hid (HW.out (at_ + 1) hX1)
 have hwz : wb < w.heap.size := by have := World.block_lt_of_cell? _ _ HC0.out; simpa using this
 have hab : at_ ≤ 1000000 := by omega
 clear HW hs
 have y1 : IntKind.i64.wrap ((at_ : Int) + 1) = ((at_ + 1 : Nat) : Int) := by rw [IntWalk.i64_in _ (by omega)]; push_cast; rfl
 have hlv : ∃ a b : Int, a = rd W (at_ + 1) / 2097152 ∧ b = rd W (at_ + 1) % 2097152 ∧ lvB P.length W at_ = (bodyOK a b && decide (st10 (rd W at_) = 2) && decide (a < P.length)) ∧ (lvV P.length W at_ : Int) = (if lvB P.length W at_ = true then a else 0) ∧ lvN P.length W at_ = (if lvB P.length W at_ = true then b else 0) := by
  refine ⟨_, _, rfl, rfl, rfl, ?_, rfl⟩
  by_cases h : lvB P.length W at_ = true
  · rw [if_pos h]; exact (lv_in h).1
  · rw [if_neg h]; unfold lvV; rw [if_neg h]; rfl
 obtain ⟨a, b, ha, hb, e1, e2, e3⟩ := hlv
 have HOF := hid (fun w' => ref10_Of (rd W (at_ + 1)) w' (hw9 (at_ + 1)))
 have HST := hid (fun w' => ref10_State (rd W at_) w')
 rw [← ha, ← hb] at HOF
 rw [e2, e3, e1]
 clear ha hb e1 e2 e3
 generalize rd W at_ = x0 at *
 generalize rd W (at_ + 1) = x1 at *
 generalize st10 x0 = st at *
 obtain ⟨lb, hlb⟩ : ∃ lb, lb = (bodyOK a b && decide (st = 2) && decide (a < P.length)) := ⟨_, rfl⟩
 obtain ⟨va, hva⟩ : ∃ va, va = (if lb = true then a else 0) := ⟨_, rfl⟩
 obtain ⟨vb, hvb⟩ : ∃ vb, vb = (if lb = true then b else 0) := ⟨_, rfl⟩
 rw [← hlb, ← hva, ← hvb]
 have HLB := hid hlb
 have HVA := hid hva
 have HVB := hid hvb
 clear hlb hva hvb
 have hbz : bodyOK a b = true → 0 ≤ a := fun h => by unfold bodyOK at h; simp at h; omega
 go_enter Tryz.func21, Tryz.ntmps21
 have HCB := hid (show Blk (w.alloc (.cells #[i64 t, i64 (s : Int), i64 g, i64 lm, i64 r, i64 (K : Int), .slice (some ⟨pb, po, none⟩) P.length pc, .slice LA ln lc] 24)) w.heap.size 24 [i64 t, i64 (s : Int), i64 g, i64 lm, i64 r, i64 (K : Int), .slice (some ⟨pb, po, none⟩) P.length pc, .slice LA ln lc] from Blk.made rfl rfl)
 have HK0 := hid (show Keep0 w (w.alloc (.cells #[i64 t, i64 (s : Int), i64 g, i64 lm, i64 r, i64 (K : Int), .slice (some ⟨pb, po, none⟩) P.length pc, .slice LA ln lc] 24)) from (Keep.refl _ _).alloc _)
 go_wp2_with fail
 refine (HTK.out _).mono ?_
 rintro e w1 ⟨rfl, hk⟩
 have HK1 : Hid (Keep0 w w1) := hid (Keep0.step HK0.out hk)
 have HCB1 := hid (hk.blk HCB.out (fun h => h))
 have c1 := (cell_old HK1.out hwz (fun h => h) _).trans HC1.out
 have qb := HCB1.out.k8
 have hlz := Nat.lt_of_lt_of_le hwz HK1.out.size
 clear hk HCB HK0 HTK
 go_wp2_with fail
 refine (HOF.out _).mono ?_
 rintro e w2 ⟨rfl, hk⟩
 have HK2 : Hid (Keep0 w w2) := hid (Keep0.step HK1.out hk)
 have HCB2 := hid (hk.blk HCB1.out (fun h => h))
 have c2 := (cell_old HK2.out hwz (fun h => h) _).trans HC0.out
 clear qb c1 hlz hk HCB1 HK1
 have qb := HCB2.out.k8
 have hlz := Nat.lt_of_lt_of_le hwz HK2.out.size
 cases hbo : bodyOK a b with
 | false =>
  rw [hbo] at HLB
  obtain rfl : lb = false := HLB.out.trans (by simp)
  obtain rfl := HVA.out
  obtain rfl := HVB.out
  try simp only [Bool.false_eq_true, if_false, if_true]
  clear HLB HVA HVB
  by_cases hst : st = 2
  · subst hst
    go_wp2_with fail
    refine (HST.out _).mono ?_
    rintro e w3 ⟨rfl, rfl⟩
    go_wp2_with fail
    go_ret3
    exact ⟨rfl, HK2.out⟩
  · have g2 : (st == 2) = false := beq_eq_false_iff_ne.2 hst
    go_wp2_with fail
    refine (HST.out _).mono ?_
    rintro e w3 ⟨rfl, rfl⟩
    go_wp2_with fail
    go_ret3
    exact ⟨rfl, HK2.out⟩
 | true =>
  have hb0 := hbz hbo
  rw [hbo] at HLB
  clear hbz hbo
  simp only [if_true]
  by_cases hst : st = 2
  · subst hst
    by_cases hlt : a < P.length
    · have g : decide ((P.length : Int) ≤ a) = false := decide_eq_false (by omega)
      obtain rfl : lb = true := HLB.out.trans (by simp; omega)
      obtain rfl := HVA.out
      obtain rfl := HVB.out
      try simp only [Bool.false_eq_true, if_false, if_true]
      clear HLB HVA HVB
      go_wp2_with fail
      refine (HST.out _).mono ?_
      rintro e w3 ⟨rfl, rfl⟩
      go_wp2_with fail
      go_ret3
      exact ⟨rfl, HK2.out⟩
    · have g : decide ((P.length : Int) ≤ a) = true := decide_eq_true (by omega)
      obtain rfl : lb = false := HLB.out.trans (by simp; omega)
      obtain rfl := HVA.out
      obtain rfl := HVB.out
      try simp only [Bool.false_eq_true, if_false, if_true]
      clear HLB HVA HVB
      go_wp2_with fail
      refine (HST.out _).mono ?_
      rintro e w3 ⟨rfl, rfl⟩
      go_wp2_with fail
      go_ret3
      exact ⟨rfl, HK2.out⟩
  · have g2 : (st == 2) = false := beq_eq_false_iff_ne.2 hst
    obtain rfl : lb = false := HLB.out.trans (by simp; omega)
    obtain rfl := HVA.out
    obtain rfl := HVB.out
    try simp only [Bool.false_eq_true, if_false, if_true]
    clear HLB HVA HVB
    go_wp2_with fail
    refine (HST.out _).mono ?_
    rintro e w3 ⟨rfl, rfl⟩
    go_wp2_with fail
    go_ret3
    exact ⟨rfl, HK2.out⟩
set_option maxHeartbeats 4000000 in
theorem r14_Used (t g lm r : Int) (s K : Nat) (P : List Int) (pb po pc : Nat) (LA : Option Addr) (ln lc : Nat) (W : List Int) (wb wo wc q v : Nat) (w : World) (hs : 1 ≤ s ∧ s ≤ 8) (hK : K ≤ 100) (h0 : 0 < P.length) (hp : P.length ≤ 1000) (ho : ParOK P) (hq : q = P.length * (6 + 2 * s)) (hW : q + 2 * K ≤ W.length) (hWb : W.length ≤ 1000000) (hw9 : ∀ i, rd W i ≤ 9223372036854775807) (hP : ∀ i, i < P.length → w.cell? ⟨pb, po + i, none⟩ = some (i64 (rd P i))) (hWc : ∀ i, i < W.length → w.cell? ⟨wb, wo + i, none⟩ = some (i64 (rd W i))) :
 Calls Tryz.prog 22 #[.agg #[i64 t, i64 (s : Int), i64 g, i64 lm, i64 r, i64 (K : Int), .slice (some ⟨pb, po, none⟩) P.length pc, .slice LA ln lc], .slice (some ⟨wb, wo, none⟩) W.length wc, i64 (v : Int)] w (Ret (i64 (usedN P W q K v)) w) := by
 have hpz : pb < w.heap.size := by have := World.block_lt_of_cell? _ _ (hP 0 h0); simpa using this
 have hwz : wb < w.heap.size := by
  have := World.block_lt_of_cell? _ _ (hWc 0 (by
   have : 1 * (6 + 2 * s) ≤ P.length * (6 + 2 * s) := Nat.mul_le_mul_right _ h0
   omega))
  simpa using this
 have HLC := hid (fun (k : Nat) (w' : World) (hk : k < K) (hkk : Keep0 w w') => r14_Live t g lm r s K P pb po pc LA ln lc W wb wo wc q k w' hs hK h0 hp hq (by omega) (by omega) hWb hw9 (fun i hi => (cell_old hkk hwz (fun h => h) _).trans (hWc i hi)))
 have HUN := hid (fun (a : Nat) (w' : World) (ha : a < P.length) (hkk : Keep0 w w') => ref_Under t (s : Int) g lm r (K : Int) P pb po pc LA ln lc a v w' hp ho ha (fun i hi => (cell_old hkk hpz (fun h => h) _).trans (hP i hi)))
 have HBU := hid (fun k => usedN_bd (P := P) (W := W) (q := q) v k)
 have HNX := hid (show ∀ k, usedN P W q (k + 1) v = usedN P W q k v + useT P W q v k from fun _ => rfl)
 have HZ := hid (show usedN P W q 0 v = 0 from rfl)
 have HUT := hid (show ∀ k, useT P W q v k = if lvB P.length W (q + 2 * k) = true ∧ undP P (lvV P.length W (q + 2 * k)) v = true then lvN P.length W (q + 2 * k) else 0 from fun _ => rfl)
 clear hP hWc hq
 go_enter Tryz.func22, Tryz.ntmps22
 have HCB := hid (show Blk (w.alloc (.cells #[i64 t, i64 (s : Int), i64 g, i64 lm, i64 r, i64 (K : Int), .slice (some ⟨pb, po, none⟩) P.length pc, .slice LA ln lc] 24)) w.heap.size 24 [i64 t, i64 (s : Int), i64 g, i64 lm, i64 r, i64 (K : Int), .slice (some ⟨pb, po, none⟩) P.length pc, .slice LA ln lc] from Blk.made rfl rfl)
 have HK0 := hid (show Keep0 w (w.alloc (.cells #[i64 t, i64 (s : Int), i64 g, i64 lm, i64 r, i64 (K : Int), .slice (some ⟨pb, po, none⟩) P.length pc, .slice LA ln lc] 24)) from (Keep.refl _ _).alloc _)
 go_wp2_with fail
 generalize w.alloc (.cells #[i64 t, i64 (s : Int), i64 g, i64 lm, i64 r, i64 (K : Int), .slice (some ⟨pb, po, none⟩) P.length pc, .slice LA ln lc] 24) = w0 at *
 go_loopw [7, 8] (fun v7 v8 wr => ∃ i : Nat, i ≤ K ∧ v8 = .int .i64 i ∧ v7 = .int .i64 (usedN P W q i v) ∧ Keep0 w0 wr) (fun _ x _ => K - (intOf x).toNat)
 case atStart => exact ⟨0, Nat.zero_le _, rfl, by rw [HZ.out], Keep.refl _ _⟩
 case round =>
  obtain ⟨i, hi, rfl, rfl, hk⟩ := hrel
  have HK := hid hk
  have HKW := hid (Keep0.step HK0.out hk)
  have HCB1 := hid (hk.blk HCB.out (fun h => h))
  have qb := HCB1.out.k8
  clear hk
  by_cases hlt : i < K
  · have hlc := HLC.out i wr hlt HKW.out
    have hnx := HNX.out i
    have hut := HUT.out i
    have b1 := HBU.out i
    have hvl := lvV_lt (W := W) P.length (q + 2 * i) h0
    have hln := lvN_bd (W := W) P.length (q + 2 * i)
    generalize lvV P.length W (q + 2 * i) = lv at *
    generalize lvN P.length W (q + 2 * i) = ln0 at *
    generalize lvB P.length W (q + 2 * i) = lb at *
    generalize useT P W q v i = ut at *
    generalize usedN P W q i v = x1 at *
    have y1 : IntKind.i64.wrap (x1 + ln0) = x1 + ln0 := IntWalk.i64_in _ (by omega)
    have HLL := hid hlc
    have HNN := hid hnx
    have HTT := hid hut
    clear hlc hnx hut
    go_wp2_with fail
    refine HLL.out.mono ?_
    rintro e w1 ⟨rfl, hk1⟩
    have HK1 := hid (Keep0.step HK.out hk1)
    have HKW1 := hid (Keep0.step HKW.out hk1)
    clear qb
    have qb := (hk1.blk HCB1.out (fun h => h)).k8
    have HCB2 := hid (hk1.blk HCB1.out (fun h => h))
    clear hk1
    cases lb with
    | false =>
     go_wp2_with fail
     go_roundw
     case rel => exact ⟨i + 1, by omega, by go_num, by rw [HNN.out, HTT.out, if_neg (by simp), Int.add_zero], HK1.out⟩
     case measure => simp [intOf]; omega
    | true =>
     have hun := HUN.out lv w1 hvl HKW1.out
     have HUU := hid hun
     clear hun
     cases hu : undP P lv v with
     | false =>
      rw [hu] at HUU HTT
      clear hu
      go_wp2_with fail
      refine HUU.out.mono ?_
      rintro e w2 ⟨rfl, hk2⟩
      have HK2 := hid (Keep0.step HK1.out hk2)
      have qb2 := (hk2.blk HCB2.out (fun h => h)).k8
      clear hk2 qb
      go_wp2_with fail
      go_roundw
      case rel => exact ⟨i + 1, by omega, by go_num, by rw [HNN.out, HTT.out, if_neg (by simp), Int.add_zero], HK2.out⟩
      case measure => simp [intOf]; omega
     | true =>
      rw [hu] at HUU HTT
      clear hu
      go_wp2_with fail
      refine HUU.out.mono ?_
      rintro e w2 ⟨rfl, hk2⟩
      have HK2 := hid (Keep0.step HK1.out hk2)
      have qb2 := (hk2.blk HCB2.out (fun h => h)).k8
      clear hk2 qb
      go_wp2_with fail
      go_roundw
      case rel => exact ⟨i + 1, by omega, by go_num, by rw [HNN.out, HTT.out, if_pos (by simp)], HK2.out⟩
      case measure => simp [intOf]; omega
  · obtain rfl : i = K := by omega
    go_wp2_with fail
    go_ret
    exact ⟨rfl, HKW.out⟩
theorem wrap64_add (a b : Int) : wrap64 (wrap64 a + b) = wrap64 (a + b) := by unfold wrap64; omega
set_option maxHeartbeats 2000000 in
theorem ref8_LeftW (t g lm r : Int) (s K : Nat) (P : List Int) (pb po pc : Nat) (LA : Option Addr) (ln lc : Nat) (W : List Int) (wb wo wc v : Nat) (w : World) (hs : 1 ≤ s ∧ s ≤ 8) (hv : v < 1000) (hp : P.length ≤ 1000) (hW : v * (6 + 2 * s) + 6 + 2 * s ≤ W.length) (hWb : W.length ≤ 1000000) (hw9 : ∀ i, wrap64 (rd W i) = rd W i) (hWc : ∀ i, i < W.length → w.cell? ⟨wb, wo + i, none⟩ = some (i64 (rd W i))) :
 Calls Tryz.prog 72 #[.slice (some ⟨wb, wo, none⟩) W.length wc, .agg #[i64 t, i64 (s : Int), i64 g, i64 lm, i64 r, i64 (K : Int), .slice (some ⟨pb, po, none⟩) P.length pc, .slice LA ln lc], i64 (v : Int)] w (Ret (i64 (wrap64 (leftN W (v * (6 + 2 * s) + 1) s))) w) := by
 have hwz : wb < w.heap.size := by have := World.block_lt_of_cell? _ _ (hWc 0 (by omega)); simpa using this
 have hln : ((v * (6 + 2 * s) : Nat) : Int) = (v : Int) * (6 + 2 * (s : Int)) := by push_cast; rfl
 have HAV := hid (fun w' => ref_Avail t (s : Int) g lm r (K : Int) (some ⟨pb, po, none⟩) P.length pc LA ln lc (v : Int) w' (by omega) (by omega) (by omega) (by omega))
 have HLE := hid (fun (u : Nat) (w' : World) (hu : u < s) => ref_Lease t (s : Int) g lm r (K : Int) (some ⟨pb, po, none⟩) P.length pc LA ln lc (v : Int) (u : Int) w' (by omega) (by omega) (by omega) (by omega) (by omega) (by omega))
 rw [← hln] at HAV HLE
 have hz : v * (6 + 2 * s) ≤ 1000000 := by omega
 have HWC := hid hWc
 have hcz := hWc (v * (6 + 2 * s) + 1) (by omega)
 have hll : v * (6 + 2 * s) + 1 < W.length := by omega
 have hl2 : v * (6 + 2 * s) + 2 + s ≤ W.length := by omega
 have HNX := hid (show ∀ u, leftN W (v * (6 + 2 * s) + 1) (u + 1) = leftN W (v * (6 + 2 * s) + 1) u + rd W (v * (6 + 2 * s) + 1 + 1 + u) from fun _ => rfl)
 have HZ := hid (show leftN W (v * (6 + 2 * s) + 1) 0 = rd W (v * (6 + 2 * s) + 1) from rfl)
 have HW9 := hid (hw9 (v * (6 + 2 * s) + 1))
 clear hWc hln hW
 generalize v * (6 + 2 * s) = li at *
 have HLN := hid (fun u (hu : u < s) => show ((li : Int) + 2 + (u : Int)) = ((li + 2 + u : Nat) : Int) from by push_cast; rfl)
 have HAN := hid (show (li : Int) + 1 = ((li + 1 : Nat) : Int) from by push_cast; rfl)
 rw [HAN.out] at HAV
 clear HAN
 go_enter Tryz.func72, Tryz.ntmps72
 have HCB := hid (show Blk (w.alloc (.cells #[i64 t, i64 (s : Int), i64 g, i64 lm, i64 r, i64 (K : Int), .slice (some ⟨pb, po, none⟩) P.length pc, .slice LA ln lc] 24)) w.heap.size 24 [i64 t, i64 (s : Int), i64 g, i64 lm, i64 r, i64 (K : Int), .slice (some ⟨pb, po, none⟩) P.length pc, .slice LA ln lc] from Blk.made rfl rfl)
 have HK0 := hid (show Keep0 w (w.alloc (.cells #[i64 t, i64 (s : Int), i64 g, i64 lm, i64 r, i64 (K : Int), .slice (some ⟨pb, po, none⟩) P.length pc, .slice LA ln lc] 24)) from (Keep.refl _ _).alloc _)
 go_wp2_with fail
 refine (HAV.out _).mono ?_
 rintro e w1 ⟨rfl, hk⟩
 have HK1 := hid (Keep0.step HK0.out hk)
 have HCB1 := hid (hk.blk HCB.out (fun h => h))
 have c1 := (cell_old HK1.out hwz (fun h => h) _).trans hcz
 have qb := HCB1.out.k8
 have hlz := Nat.lt_of_lt_of_le hwz HK1.out.size
 clear hk HCB HK0 hcz
 go_wp2_with fail
 have HW90 := hid (show rd W (li + 1) = wrap64 (leftN W (li + 1) 0) from by rw [HZ.out, HW9.out])
 clear c1 qb hlz
 go_loopw [7, 8] (fun v7 v8 wr => ∃ i : Nat, i ≤ s ∧ v8 = .int .i64 i ∧ v7 = .int .i64 (wrap64 (leftN W (li + 1) i)) ∧ Keep0 w1 wr) (fun _ x _ => s - (intOf x).toNat)
 case atStart => exact ⟨0, Nat.zero_le _, rfl, by rw [HW90.out], Keep.refl _ _⟩
 case round =>
  obtain ⟨i, hi, rfl, rfl, hk⟩ := hrel
  have HK := hid hk
  have HKW := hid (Keep0.step HK1.out hk)
  have HCB2 := hid (hk.blk HCB1.out (fun h => h))
  have qb := HCB2.out.k8
  clear hk
  by_cases hlt : i < s
  · have hle := HLE.out i wr hlt
    rw [HLN.out i hlt] at hle
    have hnx := HNX.out i
    have hcc := HWC.out (li + 2 + i) (by omega)
    rw [show li + 1 + 1 + i = li + 2 + i from by omega] at hnx
    have hix : li + 2 + i < W.length := by omega
    have HLL := hid hle
    have HNN := hid hnx
    clear hle hnx
    generalize li + 2 + i = ix at *
    generalize leftN W (li + 1) i = x1 at *
    generalize rd W ix = x2 at *
    go_wp2_with fail
    refine HLL.out.mono ?_
    rintro e w2 ⟨rfl, hk2⟩
    have HK2 := hid (Keep0.step HK.out hk2)
    have HKW2 := hid (Keep0.step HKW.out hk2)
    have qb2 := (hk2.blk HCB2.out (fun h => h)).k8
    have c2 := (cell_old HKW2.out hwz (fun h => h) _).trans hcc
    have hlz := Nat.lt_of_lt_of_le hwz HKW2.out.size
    clear hk2 qb hcc
    go_wp2_with fail
    go_roundw
    case rel => exact ⟨i + 1, by omega, by go_num, by rw [HNN.out, wrap64_add], HK2.out⟩
    case measure => simp [intOf]; omega
  · obtain rfl : i = s := by omega
    go_wp2_with fail
    go_ret
    exact ⟨rfl, HKW.out⟩
set_option maxHeartbeats 4000000 in
theorem r14_Held (t g lm r : Int) (s K : Nat) (P : List Int) (pb po pc : Nat) (LA : Option Addr) (ln lc : Nat) (W : List Int) (wb wo wc q v : Nat) (w : World) (hs : 1 ≤ s ∧ s ≤ 8) (hK : K ≤ 100) (h0 : 0 < P.length) (hp : P.length ≤ 900) (ho : ParOK P) (hq : q = P.length * (6 + 2 * s)) (hW : q + 2 * K ≤ W.length) (hWb : W.length ≤ 1000000) (hw9 : ∀ i, wrap64 (rd W i) = rd W i) (hP : ∀ i, i < P.length → w.cell? ⟨pb, po + i, none⟩ = some (i64 (rd P i))) (hWc : ∀ i, i < W.length → w.cell? ⟨wb, wo + i, none⟩ = some (i64 (rd W i)))
 (hv : v < P.length) :
 Calls Tryz.prog 23 #[.agg #[i64 t, i64 (s : Int), i64 g, i64 lm, i64 r, i64 (K : Int), .slice (some ⟨pb, po, none⟩) P.length pc, .slice LA ln lc], .slice (some ⟨wb, wo, none⟩) W.length wc, i64 (v : Int)] w (Ret (i64 (wrap64 (rd W (v * (6 + 2 * s)) - leftN W (v * (6 + 2 * s) + 1) s - usedN P W q K v))) w) := by
 have hpz : pb < w.heap.size := by have := World.block_lt_of_cell? _ _ (hP 0 h0); simpa using this
 have hvq : v * (6 + 2 * s) + (6 + 2 * s) ≤ q := by
  have h1 : (v + 1) * (6 + 2 * s) ≤ P.length * (6 + 2 * s) := Nat.mul_le_mul_right _ hv
  rw [Nat.add_mul, Nat.one_mul] at h1
  omega
 have hwz : wb < w.heap.size := by
  have := World.block_lt_of_cell? _ _ (hWc 0 (by omega))
  simpa using this
 have hln : ((v * (6 + 2 * s) : Nat) : Int) = (v : Int) * (6 + 2 * (s : Int)) := by push_cast; rfl
 have HUS := hid (fun w' (hk : Keep0 w w') => r14_Used t g lm r s K P pb po pc LA ln lc W wb wo wc q v w' hs hK h0 (by omega) ho hq hW hWb (fun i => by have := hw9 i; unfold wrap64 at this; omega) (fun i hi => (cell_old hk hpz (fun h => h) _).trans (hP i hi)) (fun i hi => (cell_old hk hwz (fun h => h) _).trans (hWc i hi)))
 have HLE := hid (fun w' (hk : Keep0 w w') => ref8_LeftW t g lm r s K P pb po pc LA ln lc W wb wo wc v w' hs (by omega) (by omega) (by omega) hWb hw9 (fun i hi => (cell_old hk hwz (fun h => h) _).trans (hWc i hi)))
 have HLM := hid (fun w' => ref_Limit t (s : Int) g lm r (K : Int) (some ⟨pb, po, none⟩) P.length pc LA ln lc (v : Int) w' (by omega) (by omega) (by omega) (by omega))
 rw [← hln] at HLM
 have HLI := hid (hWc (v * (6 + 2 * s)) (by omega))
 clear hWc hP hln hq ho
 have hlw : v * (6 + 2 * s) < W.length := by omega
 generalize v * (6 + 2 * s) = li at *
 have HRES := hid (show IntKind.i64.wrap (IntKind.i64.wrap (rd W li - wrap64 (leftN W (li + 1) s)) - usedN P W q K v) = wrap64 (rd W li - leftN W (li + 1) s - usedN P W q K v) from by
  rw [wrap_i64_eq, wrap_i64_eq, wrap64_sub]
  unfold wrap64
  omega)
 generalize wrap64 (rd W li - leftN W (li + 1) s - usedN P W q K v) = res at *
 generalize usedN P W q K v = us at *
 generalize wrap64 (leftN W (li + 1) s) = lf at *
 generalize rd W li = lim at *
 go_enter Tryz.func23, Tryz.ntmps23
 have HCB := hid (show Blk (w.alloc (.cells #[i64 t, i64 (s : Int), i64 g, i64 lm, i64 r, i64 (K : Int), .slice (some ⟨pb, po, none⟩) P.length pc, .slice LA ln lc] 24)) w.heap.size 24 [i64 t, i64 (s : Int), i64 g, i64 lm, i64 r, i64 (K : Int), .slice (some ⟨pb, po, none⟩) P.length pc, .slice LA ln lc] from Blk.made rfl rfl)
 have HK0 := hid (show Keep0 w (w.alloc (.cells #[i64 t, i64 (s : Int), i64 g, i64 lm, i64 r, i64 (K : Int), .slice (some ⟨pb, po, none⟩) P.length pc, .slice LA ln lc] 24)) from (Keep.refl _ _).alloc _)
 go_upto_region 1 with fail
 generalize w.alloc (.cells #[i64 t, i64 (s : Int), i64 g, i64 lm, i64 r, i64 (K : Int), .slice (some ⟨pb, po, none⟩) P.length pc, .slice LA ln lc] 24) = w0 at *
 apply wp_region_text (WI := fun S wx => Keep0 w0 wx) (by kernel_rfl) (by kernel_rfl)
 case hob =>
  iterate 3
   apply Oblig.cons
   case h =>
    intro S w1 hwi hSi hd hcl
    apply StepOk.intro
    intro K hK
    have qb := (hwi.blk HCB.out (fun h => h)).k8
    have cl := (cell_old (Keep0.step HK0.out hwi) hwz (fun h => h) _).trans HLI.out
    have hlz := Nat.lt_of_lt_of_le hwz (Keep0.step HK0.out hwi).size
    go_simp
    apply hK
    · rfl
    · conv => (lhs; whnf)
    · exact hwi
   simp only [put_lit, put_none]
   try dsimp only [List.set_cons_succ, List.set_cons_zero]
  apply Oblig.cons
  case h =>
   intro S w1 hwi hSi hd hcl
   apply StepOk.intro
   intro K hK
   have qb := (hwi.blk HCB.out (fun h => h)).k8
   have cl := (cell_old (Keep0.step HK0.out hwi) hwz (fun h => h) _).trans HLI.out
   have hlz := Nat.lt_of_lt_of_le hwz (Keep0.step HK0.out hwi).size
   go_simp
   refine (HLM.out _).mono ?_
   rintro e w2 ⟨rfl, hk⟩
   apply hK
   · rfl
   · conv => (lhs; whnf)
   · exact Keep0.step hwi hk
  simp only [put_lit, put_none]
  try dsimp only [List.set_cons_succ, List.set_cons_zero]
  iterate 5
   apply Oblig.cons
   case h =>
    intro S w1 hwi hSi hd hcl
    apply StepOk.intro
    intro K hK
    have qb := (hwi.blk HCB.out (fun h => h)).k8
    have cl := (cell_old (Keep0.step HK0.out hwi) hwz (fun h => h) _).trans HLI.out
    have hlz := Nat.lt_of_lt_of_le hwz (Keep0.step HK0.out hwi).size
    go_simp
    apply hK
    · rfl
    · conv => (lhs; whnf)
    · exact hwi
   simp only [put_lit, put_none]
   try dsimp only [List.set_cons_succ, List.set_cons_zero]
  apply Oblig.cons
  case h =>
   intro S w1 hwi hSi hd hcl
   apply StepOk.intro
   intro K hK
   have qb := (hwi.blk HCB.out (fun h => h)).k8
   have cl := (cell_old (Keep0.step HK0.out hwi) hwz (fun h => h) _).trans HLI.out
   have hlz := Nat.lt_of_lt_of_le hwz (Keep0.step HK0.out hwi).size
   go_simp
   refine (HLE.out _ (Keep0.step HK0.out hwi)).mono ?_
   rintro e w2 ⟨rfl, hk⟩
   apply hK
   · rfl
   · conv => (lhs; whnf)
   · exact Keep0.step hwi hk
  simp only [put_lit, put_none]
  try dsimp only [List.set_cons_succ, List.set_cons_zero]
  iterate 4
   apply Oblig.cons
   case h =>
    intro S w1 hwi hSi hd hcl
    apply StepOk.intro
    intro K hK
    have qb := (hwi.blk HCB.out (fun h => h)).k8
    have cl := (cell_old (Keep0.step HK0.out hwi) hwz (fun h => h) _).trans HLI.out
    have hlz := Nat.lt_of_lt_of_le hwz (Keep0.step HK0.out hwi).size
    go_simp
    apply hK
    · rfl
    · conv => (lhs; whnf)
    · exact hwi
   simp only [put_lit, put_none]
   try dsimp only [List.set_cons_succ, List.set_cons_zero]
  apply Oblig.cons
  case h =>
   intro S w1 hwi hSi hd hcl
   apply StepOk.intro
   intro K hK
   have qb := (hwi.blk HCB.out (fun h => h)).k8
   have cl := (cell_old (Keep0.step HK0.out hwi) hwz (fun h => h) _).trans HLI.out
   have hlz := Nat.lt_of_lt_of_le hwz (Keep0.step HK0.out hwi).size
   go_simp
   refine (HUS.out _ (Keep0.step HK0.out hwi)).mono ?_
   rintro e w2 ⟨rfl, hk⟩
   apply hK
   · rfl
   · conv => (lhs; whnf)
   · exact Keep0.step hwi hk
  simp only [put_lit, put_none]
  try dsimp only [List.set_cons_succ, List.set_cons_zero]
  iterate 2
   apply Oblig.cons
   case h =>
    intro S w1 hwi hSi hd hcl
    apply StepOk.intro
    intro K hK
    have qb := (hwi.blk HCB.out (fun h => h)).k8
    have cl := (cell_old (Keep0.step HK0.out hwi) hwz (fun h => h) _).trans HLI.out
    have hlz := Nat.lt_of_lt_of_le hwz (Keep0.step HK0.out hwi).size
    go_simp
    apply hK
    · rfl
    · conv => (lhs; whnf)
    · exact hwi
   simp only [put_lit, put_none]
   try dsimp only [List.set_cons_succ, List.set_cons_zero]
  exact Oblig.nil
 case h0 =>
  exact (Keep.refl _ _).drew
 case hend =>
  intro S wx hwi hall
  have HKX := hid hwi
  clear hwi hall
  go_wp2_with fail
  go_ret
  exact ⟨by rw [← HRES.out]; rfl, Keep0.step HK0.out HKX.out⟩
end Go.Proofs.YthaceckccobgeaaGreat

namespace Go.Proofs.YthaceckccobgeaaGreat
open Go.RowKit
set_option linter.unusedVariables false
set_option linter.unusedSimpArgs false
set_option maxRecDepth 100000
def refW (B m wb : Nat) (V W : List Int) (L : List Acc) : Ass where
 At R w := ∃ A c lv, RefAt B w m A c lv W L ∧ Ints w wb V ∧ (wb ≠ m ∧ lv.ownBlock ≠ some wb) ∧ ∀ k, R k ↔ RF m A lv k ∨ k = wb
 st := by
  rintro R S w w' ⟨A, c, lv, h, hi, hn, e⟩ hk hS
  exact ⟨A, c, lv, h.keep hk (fun k hm => hS k ((e k).2 (Or.inl hm))), hk.ints hi (hS wb ((e wb).2 (Or.inr rfl))), hn, e⟩
 lt := by
  rintro R w ⟨A, c, lv, h, hi, hn, e⟩ k hk
  rcases (e k).1 hk with hk | rfl
  · exact refRF_lt h k hk
  · exact hi.lt
theorem ints_ne {w : World} {b wb : Nat} {V : List Int} {T : TypeId} {cs : List Value} (hi : Ints w wb V) (hb : Blk w b T cs) (hT : T ≠ 3) : wb ≠ b := by
 obtain ⟨cur, hg, _⟩ := hi
 rintro rfl
 have hb' : w.heap[wb]? = some (.cells cs.toArray T (0, 0)) := hb
 rw [hb'] at hg
 cases hg
 exact hT rfl
theorem own_ne {w : World} {B wb : Nat} {V : List Int} {lv : Value} {n : Nat} {xs : List Value} (hi : Ints w wb V) (ho : w.ownsRow B 112 5 lv n xs) : lv.ownBlock ≠ some wb := by
 obtain ⟨cur, hg, _⟩ := hi
 intro e
 rcases ho.2 with ⟨rfl, _⟩ | ⟨g, cap, cur2, rfl, _, h2, _⟩
 · simp [Value.ownBlock] at e
 · have e2 : g = wb := by simpa [Value.ownBlock] using e
   rw [e2, hg] at h2
   have h3 : 3 = 112 := by injection h2 with h2; injection h2
   exact absurd h3 (by decide)
theorem St.layW {w0 w1 w2 : World} {wb n : Nat} {l : List Ass} {W : List Int} {c : Nat} (h : St w0 (intsK wb c W :: l) w1) (hb : Blk w2 n 42 [.slice (some ⟨wb, 0, none⟩) W.length c, .slice none 0 0]) (hk : Keep0 w1 w2) (hn : w1.heap.size ≤ n) : St w0 (refW w0.heap.size n wb W W [] :: l) w2 := by
 have h1 := St.pair (St.nw h (Nw.blk hb hk hn))
 refine h1.mono ?_
 rintro V ⟨R1, R2, ⟨g1, g2⟩, gk, g5, g6⟩ hz
 obtain ⟨g3, g4⟩ := intsK_ints gk
 have hgz : w0.heap.size ≤ wb := hz wb ((g6 wb).2 (Or.inr ((g4 wb).2 rfl)))
 have hbz : w0.heap.size ≤ n := hz n ((g6 n).2 (Or.inl ((g2 n).2 rfl)))
 refine ⟨some ⟨wb, 0, none⟩, c, .slice none 0 0, ⟨Nat.le_trans h.k.size hk.size, hbz, g1, intsK_row _ hgz gk, by simpa [accs] using World.ownsRow_nil _ _ _ _⟩, g3, ⟨ints_ne g3 g1 (by decide), by simp [Value.ownBlock]⟩, fun k => ?_⟩
 rw [g6, g2, g4]
 unfold RF
 simp [Value.ownBlock]
 constructor
 · rintro (h | h)
   · exact Or.inl (Or.inl h)
   · exact Or.inr h
 · rintro ((h | h) | h)
   · exact Or.inl h
   · exact Or.inr h.symm
   · exact Or.inr h
section
variable {B m x y b s wb : Nat} {V : List Int} {R : Nat → Prop} {w : World} {t : SN}
theorem r7W_Count (h : ((refW B m wb V t.W t.L).star (r7O b s false y t)).At R w) (hi : NInv b s t) (hb : b ≤ 1000000) (hL : t.L.length ≤ 1000000000) :
 Calls Tryz.prog 77 #[ptr y, ptr m] w fun e w' => e = .returned (.bool (nStp b s t).2) ∧ Tr ((refW B m wb V (nStp b s t).1.W (nStp b s t).1.L).star (r7O b s false y (nStp b s t).1)) R w w' := by
 obtain ⟨Rm, Rx, ⟨A, c, lv, hm, hwi, hwn, e1⟩, ⟨Ag, hy, _, e3⟩, hd, e2⟩ := h
 have hny : ¬ wb = y := fun e => hd wb ((e1 wb).2 (Or.inr rfl)) ((e3 wb).2 (Or.inl e))
 refine (r7_Count_Step t hm hy (fun k hr h => hd k ((e1 k).2 (Or.inl h)) ((e3 k).2 hr)) hi hb hL).mono ?_
 rintro e w' ⟨rfl, A', c', lv', Ag', h1, h2, h3, h4, h5, h6, h7⟩
 refine ⟨rfl, fun k => (RF m A' lv' k ∨ k = wb) ∨ RS y Ag' k, ⟨fun k => RF m A' lv' k ∨ k = wb, RS y Ag', ⟨A', c', lv', h1, h4.ints hwi ?_, ⟨hwn.1, own_ne (h4.ints hwi ?_) h1.log⟩, fun k => Iff.rfl⟩, ⟨Ag', h2, (fun hpk => by cases hpk), fun k => Iff.rfl⟩, ?_, fun k => Iff.rfl⟩, h4.mono ?_, ?_⟩
 · rintro ((h | h) | h)
   · exact hwn.1 h
   · exact hwn.2 h
   · exact hny h
 · rintro ((h | h) | h)
   · exact hwn.1 h
   · exact hwn.2 h
   · exact hny h
 · rintro k (hm' | rfl) hr
   · exact h3 k hr hm'
   · rcases hr with hr | hr
     · exact hny hr
     · rcases h7 k hr with hr | hr
       · exact hd k ((e1 k).2 (Or.inr rfl)) ((e3 k).2 (Or.inr hr))
       · have := hwi.lt; omega
 · rintro k ((h | h) | h)
   · exact (e2 k).2 (Or.inl ((e1 k).2 (Or.inl (Or.inl h))))
   · exact (e2 k).2 (Or.inl ((e1 k).2 (Or.inl (Or.inr (Or.inr h)))))
   · exact (e2 k).2 (Or.inr ((e3 k).2 (Or.inl h)))
 · rintro k (((h | h | h) | h) | h | h)
   · exact Or.inl ((e2 k).2 (Or.inl ((e1 k).2 (Or.inl (Or.inl h)))))
   · exact (h5 k h).imp (fun h => (e2 k).2 (Or.inl ((e1 k).2 (Or.inl (Or.inr (Or.inl h)))))) id
   · exact (h6 k h).imp (fun h => (e2 k).2 (Or.inl ((e1 k).2 (Or.inl (Or.inr (Or.inr h)))))) id
   · exact Or.inl ((e2 k).2 (Or.inl ((e1 k).2 (Or.inr h))))
   · exact Or.inl ((e2 k).2 (Or.inr ((e3 k).2 (Or.inl h))))
   · exact (h7 k h).imp (fun h => (e2 k).2 (Or.inr ((e3 k).2 (Or.inr h)))) id
theorem r7W_Play (W : List Int) (hW : t.W = W) (most : Nat) (hb : b ≤ 1000000) (hL : t.L.length ≤ 1000000) (hmost : most ≤ 2000) (hlen : W.length ≤ 1000000)
 (h : ((refW B m wb V t.W t.L).star (r7O b s false x t)).At R w) (hi : NInv b s t) :
 Calls Tryz.prog 29 #[ptr m, ptr x, .slice none 0 0, i64 most] w fun e w' =>
  e = .returned (.tuple #[i64 (playF (nStp b s) nPk W.length [] most 0 t).2.1, .bool (playF (nStp b s) nPk W.length [] most 0 t).2.2]) ∧ Tr ((refW B m wb V (playF (nStp b s) nPk W.length [] most 0 t).1.W (playF (nStp b s) nPk W.length [] most 0 t).1.L).star (r7O b s false x (playF (nStp b s) nPk W.length [] most 0 t).1)) R w w' := by
 subst hW
 have hh := ref7_SL (fun t => (refW B m wb V t.W t.L).star (r7O b s false x t)) (PI7 (NInv b s) t.W.length t.L.length) (nStp b s) nPk t.W.length x m [] none 0 0 0 most w R t (by omega) (by decide) hlen h ⟨hi, rfl, by omega⟩ (fun h => absurd h (by decide)) (fun i h => absurd h (by simp)) ?_ ?_ ?_ ?_ ?_
 · refine hh.mono ?_
   rintro e w' ⟨h1, h2, _⟩
   exact ⟨h1, h2⟩
 · rintro n R w t1 ⟨Rm, Rx, ⟨A, c, lv, h1, _⟩, _⟩ ⟨_, e, _⟩
   rw [← e]
   exact ⟨A, c, lv, h1.mem⟩
 · rintro n t1 i y _ _ ⟨h1, h2, h3⟩
   exact ⟨h1.poke i y, by simpa [nPk] using h2, h3⟩
 · rintro n t1 hn ⟨h1, h2, h3⟩
   exact ⟨h1.step, by show (nNext b s t1).W.length = _; rw [nNext_W]; exact h2, by have := nNext_logle b s t1; show (nNext b s t1).L.length ≤ _; omega⟩
 · rintro n R w t1 i y ⟨p, hp, _⟩
   cases hp
 · rintro n R w t1 hn h1 ⟨h2, h3, h4⟩
   exact r7W_Count h1 h2 hb (by omega)
end
theorem St.dropW {w0 w : World} {B m wb : Nat} {V W : List Int} {L : List Acc} {l : List Ass} (h : St w0 (refW B m wb V W L :: l) w) : St w0 (intsO wb V :: l) w := by
 obtain ⟨h1, U, ⟨R, Q, ⟨A, c, lv, hm, hwi, hwn, e⟩, hv, hd, hU⟩, hz⟩ := h
 exact ⟨h1, fun k => k = wb ∨ Q k, ⟨fun k => k = wb, Q, ⟨hwi, fun _ => Iff.rfl⟩, hv, fun k hk => by subst hk; exact hd k ((e k).2 (Or.inr rfl)), fun _ => Iff.rfl⟩, fun k hk => hk.elim (fun h => by subst h; exact hz k ((hU k).2 (Or.inl ((e k).2 (Or.inr rfl))))) (fun h => hz k ((hU k).2 (Or.inr h)))⟩
end Go.Proofs.YthaceckccobgeaaGreat

namespace Go.Proofs.YthaceckccobgeaaGreat
open Go.RowKit
set_option linter.unusedVariables false
set_option linter.unusedSimpArgs false
set_option maxRecDepth 100000
theorem nplay_W (b s len most : Nat) (t : SN) : (playF (nStp b s) nPk len [] most 0 t).1.W = t.W :=
 playF_inv (fun _ t' => t'.W = t.W) (fun n t' h => by rw [pokeAll_nil]; exact h) (fun n t' h => by show (nNext b s t').W = _; rw [nNext_W]; exact h) most 0 t rfl
theorem gplay_one (b len k : Nat) (W : List Int) (L : List Acc) : playF (gStp b) nPk len [] (k + 1) 0 (⟨W, L, 0, [], 0, false, false⟩ : SN) = (⟨W, L ++ [⟨1, (b : Nat), rd W b, 0, false⟩], 0, [], rd W b, false, true⟩, 1, true) := by
 rw [playF_succ, pokeAll_nil]
 rfl
theorem refLogT {B : Nat} {w : World} {m : Nat} {A : Option Addr} {c : Nat} {lv : Value} {W : List Int} {L : List Acc} (h : RefAt B w m A c lv W L) : ∃ LA LC, lv = .slice LA L.length LC ∧ AccsAt w LA L := by
 have hl := h.log
 rcases hl.2 with ⟨e, h0⟩ | ⟨g, cap, cur, e, _, _, _⟩
 · exact ⟨none, 0, by rw [e, h0], Or.inl (List.eq_nil_of_length_eq_zero h0)⟩
 · exact ⟨some ⟨g, 0, none⟩, cap, e, accs_of_row (e ▸ hl) rfl⟩
def dlT (i : Nat) (LL : List Acc) (k : Nat) (u : Value) (w : World) : Prop := k = i → ∃ A c, u = .slice A LL.length c ∧ AccsAt w A LL
theorem dlT_stable {i : Nat} {LL : List Acc} : Stable (dlT i LL) := by
 rintro k u w w' h1 hk e
 obtain ⟨A, c, e, h⟩ := h1 e
 exact ⟨A, c, e, h.keep hk⟩
theorem rd_rawN (Q : Int → Prop) (h0 : Q 0) {W V : List Int} (hW : ∀ i, Q (rd W i)) (hV : ∀ i, Q (rd V i)) : ∀ n i, Q (rd (rawN W V n) i)
 | 0, i => hW i
 | n + 1, i => by
  rw [rawN, rd_set]
  split
  · exact hV n
  · exact rd_rawN Q h0 hW hV n i
theorem rd_layN (Q : Int → Prop) (h0 : Q 0) (h1 : Q 1) {s : Int} {L : List Int} {W : List Int} (hW : ∀ i, Q (rd W i)) : ∀ n, (∀ i, i < n → Q (rd L i)) → ∀ i, Q (rd (layN s L n W) i)
 | 0, _, i => hW i
 | n + 1, hL, i => by
  have ih := rd_layN Q h0 h1 (s := s) hW n (fun j hj => hL j (by omega))
  rw [layN]
  unfold layW
  rw [rd_set]
  split
  · exact h1
  · rw [rd_set]
    split
    · exact hL n (by omega)
    · rw [rd_set]
      split
      · exact hL n (by omega)
      · exact ih i
theorem rd_rep14 (n i : Nat) : rd (List.replicate n 0) i = 0 := by
 unfold rd
 rw [List.getD_eq_getElem?_getD]
 by_cases h : i < n
 · simp [List.getElem?_replicate, h]
 · simp [List.getElem?_replicate, h]
theorem rd_none {V : List Int} {i : Nat} (h : V.length ≤ i) : rd V i = 0 := by
 unfold rd
 rw [List.getD_eq_getElem?_getD, List.getElem?_eq_none h]
 rfl
theorem raw_bd {t s g lm r k : Int} {P L V : List Int} (hR : Right t s g lm r k P L) (hV : ∀ i, i < V.length → -9223372036854775808 ≤ rd V i ∧ rd V i ≤ 9223372036854775807) (i : Nat) : wrap64 (rd (rawW (freshW s k P.length L) V) i) = rd (rawW (freshW s k P.length L) V) i := by
 have h := rd_rawN (fun x => -9223372036854775808 ≤ x ∧ x ≤ 9223372036854775807) (by omega) (W := freshW s k P.length L) (V := V) (fun j => by
  unfold freshW
  exact rd_layN (fun x => -9223372036854775808 ≤ x ∧ x ≤ 9223372036854775807) (by omega) (by omega) (fun j => by rw [rd_rep14]; omega) P.length (fun j hj => by have := hR.lim j hj; omega) j) (fun j => by
  by_cases hj : j < V.length
  · exact hV j hj
  · rw [rd_none (by omega)]; omega) (min V.length (freshW s k P.length L).length) i
 unfold rawW
 unfold wrap64
 omega
end Go.Proofs.YthaceckccobgeaaGreat

namespace Go.Proofs.YthaceckccobgeaaGreat
open Go.ChangeShapes Go.WideShapes Go.ChangeAt Go.RowKit Go.Deep
set_option linter.unusedVariables false
set_option linter.unusedSimpArgs false
set_option maxRecDepth 100000
def KsAt (k : IntKind) (w : World) (A : Option Addr) (l : List Int) : Prop := l = [] ∨ ∃ b o, A = some ⟨b, o, none⟩ ∧ ∀ i, i < l.length → w.cell? ⟨b, o + i, none⟩ = some (.int k (rd l i))
def KsIn (k : IntKind) (w : World) (v : Value) (l : List Int) : Prop := ∃ A c, v = .slice A l.length c ∧ l.length ≤ 9223372036854775807 ∧ KsAt k w A l
theorem KsAt.keep {k : IntKind} {w w' : World} {A : Option Addr} {l : List Int} (h : KsAt k w A l) (hk : Keep0 w w') : KsAt k w' A l := by
 rcases h with h | ⟨b, o, e1, h⟩
 · exact Or.inl h
 · refine Or.inr ⟨b, o, e1, fun i hi => ?_⟩
   rw [cell_old hk (World.block_lt_of_cell? _ _ (h i hi)) (fun x => x)]
   exact h i hi
end Go.Proofs.YthaceckccobgeaaGreat

namespace Go.Proofs.YthaceckccobgeaaGreat
open Go.ChangeShapes Go.WideShapes Go.ChangeAt Go.RowKit Go.Deep
set_option linter.unusedVariables false
set_option linter.unusedSimpArgs false
set_option maxRecDepth 100000
section
variable {H : Type} {enc : TypeId × Value → H} {w : World} {base : Nat}
theorem i64s_open {r0 : Reach} {b0 : Nat} {v : Value} {d : DataW H} {p : List MemPlace} (hv : Value.okWide Tryz.prog w r0 b0 22 v) (h0 : DataW.Trod enc Tryz.prog w base (fun _ => true) true 22 v d p) : ∃ l, KsIn .i64 w v l ∧ ∀ i, i < l.length → -9223372036854775808 ≤ rd l i ∧ rd l i ≤ 9223372036854775807 := by
 obtain ⟨A, n, c, rfl⟩ := okWide_slice Tryz.underlying22 hv
 obtain ⟨fuel, h⟩ := h0
 rcases open_ints Tryz.underlying22 Tryz.underlying3 (by kernel_rfl) h with ⟨hcs, _⟩ | ⟨a, len, cap, zs, hcs, _, hl, hm, hz, _, hcell, hwf⟩
 · simp only [Value.cells, List.cons.injEq, and_true] at hcs
   cases hcs
   exact ⟨[], ⟨none, 0, rfl, by simp, Or.inl rfl⟩, by simp⟩
 · simp only [Value.cells, List.cons.injEq, and_true] at hcs
   obtain ⟨rfl, rfl, rfl⟩ : A = some a ∧ n = len ∧ c = cap := by cases hcs; exact ⟨rfl, rfl, rfl⟩
   simp only [if_true] at hz
   have hlen : (zs.take n).length = n := by rw [List.length_take]; omega
   refine ⟨zs.take n, ⟨some a, c, by rw [hlen], by rw [hlen]; unfold maxLen at hm; omega, ?_⟩, ?_⟩
   · by_cases h0 : n = 0
     · left; subst h0; rfl
     · right
       have hc0 := hcell 0 (by omega)
       have hsp : a.spot = none := by
        unfold World.cell? at hc0
        cases hs : a.spot with
        | none => rfl
        | some x => simp [Addr.add, hs] at hc0; split at hc0 <;> simp_all
       obtain ⟨b, o, sp⟩ := a
       simp only at hsp
       subst hsp
       refine ⟨b, o, rfl, fun i hi => ?_⟩
       rw [hlen] at hi
       have hc := hcell i (by omega)
       have e : (⟨b, o, none⟩ : Addr).add i = ⟨b, o + i, none⟩ := by unfold Addr.add; split <;> simp_all
       rw [e] at hc
       rw [hc]
       simp [rd, List.getD, List.getElem?_take, hi]
   · intro i hi
     rw [hlen] at hi
     have e : rd (zs.take n) i = zs[i]'(by omega) := by simp [rd, List.getD, List.getElem?_take, hi]; rw [List.getElem?_eq_getElem (by omega)]; rfl
     rw [e]
     exact bounds_i64 (hwf _ (List.getElem_mem _))
end
end Go.Proofs.YthaceckccobgeaaGreat
