/- AddRow: numbers that are added one behind the other, by whatever threads, add up. -/
import Derived.Test.YtchlmaphaeoplaaHeadSix
import Derived.Test.YtchlmaphaeoplaaLawSixE
import Derived.Test.YtchlmaphaeoplaaRowSix
import Derived.Test.YtchlmaphaeoplaaRegionF
namespace Go.Proofs.Ytchlmaphaeoplaa
open Go.RowKit
set_option linter.unusedVariables false
set_option linter.unusedSimpArgs false
set_option maxRecDepth 100000
/-- the words behind i numbers -/
structure RowI (b s : Nat) (g l : Int) (N : Nat) (W : List Int) (S : Int) (i : Nat) : Prop where
  ln : W.length = N
  lv : rd W (b + 3) = l
  gate : GateAt W b s g
  gl : -4294967296 - 8796093022208 * i ≤ rd W b ∧ rd W b ≤ 4294967296 + 8796093022208 * i
  sum : sP W b s = S
theorem RowI.next {b s : Nat} {g l d S : Int} {N n i : Nat} {W W' : List Int} (h : RowI b s g l N W S i) (ha : Alone b s g d W W' n) : RowI b s g l N W' (S + d) (i + 1) :=
  ⟨ha.ln.trans h.ln, ha.lv.trans h.lv, ha.gate h.gate, by have h1 := ha.gl; have h2 := h.gl; omega, by rw [ha.sum, h.sum]⟩
theorem upd_ne {S : Nat → Bool} {i j : Nat} (h : j ≠ i) : upd S i j = S j := by simp [upd, h]
theorem upd_eq {S : Nat → Bool} {i : Nat} : upd S i i = true := by simp [upd]
/-- what holds within the region that makes a machine (15, 16) and plays it (17) -/
def WRow (w : World) (B m a : Nat) (lv : Value) (W : List Int) (L : List Acc) (W' : List Int) (L' : List Acc) (x7 b s : Nat) (g d : Int) (S : Nat → Bool) (gh : Nat → Value) (wx : World) : Prop :=
  Keep0 w wx ∧ (S 17 = false → MemAt B wx m a lv W L) ∧
  (S 15 = true → ∃ x, gh 15 = ptr x ∧ B ≤ x ∧ (S 17 = false → Blk wx x 83 (acs b s g d ⟨W, L, 0, (x7 : Int), 0, 0, 0, 0⟩))) ∧
  (S 16 = true → ∃ x, gh 16 = .iface 37 (ptr x) ∧ B ≤ x ∧ (S 17 = false → Blk wx x 83 (acs b s g d ⟨W, L, 0, (x7 : Int), 0, 0, 0, 0⟩))) ∧
  (S 17 = true → ∃ lv', MemAt B wx m a lv' W' L')
section
variable {w : World} {B m a : Nat} {lv : Value} {W : List Int} {L : List Acc} {W' : List Int} {L' : List Acc} {x7 b s : Nat} {g d : Int} {S : Nat → Bool} {gh : Nat → Value} {wx : World}
theorem WRow.start (h : Keep0 w wx) (hm : MemAt B wx m a lv W L) : WRow w B m a lv W L W' L' x7 b s g d (fun _ => false) gh wx :=
  ⟨h, fun _ => hm, (fun h => by cases h), (fun h => by cases h), (fun h => by cases h)⟩
theorem WRow.fixed {i : Nat} (h : WRow w B m a lv W L W' L' x7 b s g d S gh wx) (hi : i ≠ 15 ∧ i ≠ 16 ∧ i ≠ 17) : WRow w B m a lv W L W' L' x7 b s g d (upd S i) gh wx := by
  obtain ⟨h1, h2, h3, h4, h5⟩ := h
  unfold WRow
  rw [upd_ne (Ne.symm hi.1), upd_ne (Ne.symm hi.2.1), upd_ne (Ne.symm hi.2.2)]
  exact ⟨h1, h2, h3, h4, h5⟩
theorem WRow.made (h : WRow w B m a lv W L W' L' x7 b s g d S gh wx) (h15 : S 15 = false) (h16 : S 16 = true → S 15 = true) (h17 : S 17 = true → S 16 = true) {w2 : World} {x : Nat} (hK : Keep0 w w2) (hk : Keep0 wx w2) (hx : B ≤ x) (hb : Blk w2 x 83 (acs b s g d ⟨W, L, 0, (x7 : Int), 0, 0, 0, 0⟩)) :
    WRow w B m a lv W L W' L' x7 b s g d (upd S 15) (updv gh 15 (ptr x)) w2 := by
  obtain ⟨h1, h2, h3, h4, h5⟩ := h
  have n16 : S 16 = true → False := fun h => by have := h16 h; rw [h15] at this; cases this
  unfold WRow
  rw [upd_ne (show (16 : Nat) ≠ 15 by decide), upd_ne (show (17 : Nat) ≠ 15 by decide), updv_same]
  exact ⟨hK, fun h => (h2 h).same hk, fun _ => ⟨x, rfl, hx, fun _ => hb⟩, fun h => (n16 h).elim, fun h => (n16 (h17 h)).elim⟩
theorem WRow.boxed (h : WRow w B m a lv W L W' L' x7 b s g d S gh wx) (h16 : S 16 = false) (h17 : S 17 = true → S 16 = true) {x : Nat} (hx : B ≤ x) (hb : S 17 = false → Blk wx x 83 (acs b s g d ⟨W, L, 0, (x7 : Int), 0, 0, 0, 0⟩)) :
    WRow w B m a lv W L W' L' x7 b s g d (upd S 16) (updv gh 16 (.iface 37 (ptr x))) wx := by
  obtain ⟨h1, h2, h3, h4, h5⟩ := h
  unfold WRow
  rw [upd_ne (show (15 : Nat) ≠ 16 by decide), upd_ne (show (17 : Nat) ≠ 16 by decide), updv_same, updv_ne (show (15 : Nat) ≠ 16 by decide)]
  exact ⟨h1, h2, h3, fun _ => ⟨x, rfl, hx, hb⟩, fun h => by have := h17 h; rw [h16] at this; cases this⟩
theorem WRow.played (h : WRow w B m a lv W L W' L' x7 b s g d S gh wx) {w2 : World} {lv' : Value} (hk : Keep0 w w2) (hm : MemAt B w2 m a lv' W' L') :
    WRow w B m a lv W L W' L' x7 b s g d (upd S 17) gh w2 := by
  obtain ⟨h1, h2, h3, h4, h5⟩ := h
  unfold WRow
  rw [upd_ne (show (15 : Nat) ≠ 17 by decide), upd_ne (show (16 : Nat) ≠ 17 by decide), upd_eq]
  refine ⟨hk, fun h => (by cases h), fun h => ?_, fun h => ?_, fun _ => ⟨lv', hm⟩⟩
  · obtain ⟨x, e, hx, _⟩ := h3 h
    exact ⟨x, e, hx, fun h => by cases h⟩
  · obtain ⟨x, e, hx, _⟩ := h4 h
    exact ⟨x, e, hx, fun h => by cases h⟩
end
set_option maxHeartbeats 4000000 in
theorem addRow_walk {w : World} {v0 v1 v2 : Value} (hc : CounterIn w v0) (hD0 : ∃ l, KsIn .i32 w v1 l ∧ ∀ i, i < l.length → -2147483648 ≤ rd l i ∧ rd l i ≤ 2147483647) (hT0 : ∃ l, KsIn .u16 w v2 l ∧ ∀ i, i < l.length → 0 ≤ rd l i ∧ rd l i ≤ 65535) :
    Calls Try.prog 4 #[v0, v1, v2] w (Ret (.bool true) w) := by
  obtain ⟨D, ⟨DA, dc, rfl, hdl, hD⟩, hDb⟩ := hD0
  obtain ⟨T, ⟨TA, tc, rfl, htl, hT⟩, hTb⟩ := hT0
  have HD := hid hD
  have HT := hid hT
  clear hD hT hdl htl
  obtain ⟨ba, sr, ga, gl, li, VA, V, vc, UA, U, uc, rfl, h0, h1, h2, h3, h4, hV, hv1, hvb, hU, hu1, hub⟩ := hc
  obtain ⟨b, hb⟩ : ∃ b : Nat, (b : Int) = ba % 8 := ⟨(ba % 8).toNat, by omega⟩
  have hz1 := sz4_bd sr
  have hz2 := sz4_bd li
  obtain ⟨s, hs⟩ : ∃ s : Nat, (s : Int) = sz4 sr := ⟨(sz4 sr).toNat, by omega⟩
  obtain ⟨g, hg⟩ : ∃ g : Nat, (g : Int) = ga % 40 + 1 := ⟨(ga % 40 + 1).toNat, by omega⟩
  obtain ⟨l, hl⟩ : ∃ l : Nat, (l : Int) = min (sz4 li) (sz4 sr) := ⟨(min (sz4 li) (sz4 sr)).toNat, by omega⟩
  have HP2 := hid (show p2 (s : Int) ∧ p2 (l : Int) ∧ (l : Int) ≤ s from ⟨by rw [hs]; exact sz4_p2 _, by rw [hl]; exact (p2_min (sz4_p2 _) (sz4_p2 _)).1, by rw [hl, hs]; exact (p2_min (sz4_p2 _) (sz4_p2 _)).2⟩)
  have hbb : b ≤ 7 := by omega
  have hss : 1 ≤ s ∧ s ≤ 8 := by omega
  have hgg : 1 ≤ g ∧ g ≤ 40 := by omega
  have hll : 1 ≤ l ∧ l ≤ 8 := by omega
  have HSZ := hid (fun w' => law6_Size ba sr ga gl li VA V.length vc UA U.length uc w' h0 h1 h2 h4)
  rw [← hl, ← hb, ← hs, ← hg] at HSZ
  have HWO := hid (fun (w' : World) (hk : Keep0 w w') hv hu => law6_Words ba sr ga gl li VA V vc UA U uc w' b s g l h0 h1 h2 h4 h3 (hV.keep hk) (hU.keep hk) hv hu hvb hub hb hs hg hl)
  skip
  have HK0 : Hid (Keep0 w (w.alloc (.cells #[.int .u8 ba, .int .u8 sr, .int .u16 ga, .int .i32 gl, .int .u8 li, .slice VA V.length vc, .slice UA U.length uc] 26))) := hid ((Keep.refl _ _).alloc _)
  clear hV hU hv1 hu1 hvb hub h0 h1 h2 h4 hb hs hg hl hz1 hz2
  go_enter Try.func4, Try.ntmps4
  go_wp2_with fail
  have HB : Hid (Blk (w.alloc (.cells #[.int .u8 ba, .int .u8 sr, .int .u16 ga, .int .i32 gl, .int .u8 li, .slice VA V.length vc, .slice UA U.length uc] 26)) w.heap.size 26 [.int .u8 ba, .int .u8 sr, .int .u16 ga, .int .i32 gl, .int .u8 li, .slice VA V.length vc, .slice UA U.length uc]) := hid (Blk.made rfl rfl)
  have qHB := HB.out.k7
  refine (law6_head _).mono ?_
  rintro e w1 ⟨rfl, hk⟩
  have HK1 : Hid (Keep0 w w1) := hid (Keep0.step (by repeat (with_reducible first | exact Keep.refl _ _ | exact HK0.out | apply Keep.alloc | apply Keep.drewN | apply Keep.drew)) hk)
  have THB := hk.blk (show Blk _ _ _ _ from by repeat (with_reducible first | exact HB.out | apply Blk.alloc | apply Blk.drewN | apply Blk.drew)) (fun h => h)
  clear hk qHB HB HK0
  have HB := hid THB
  clear THB
  have qHB := HB.out.k7
  by_cases hgd0 : 40 < D.length
  · go_wp2_with fail
    go_ret
    exact ⟨rfl, HK1.out⟩
  by_cases hgd1 : T.length < D.length
  · go_wp2_with fail
    go_ret
    exact ⟨rfl, HK1.out⟩
  by_cases hgd2 : 20 < V.length
  · go_wp2_with fail
    go_ret
    exact ⟨rfl, HK1.out⟩
  by_cases hgd3 : 20 < U.length
  · go_wp2_with fail
    go_ret
    exact ⟨rfl, HK1.out⟩
  go_wp2_with fail
  refine (HSZ.out _).mono ?_
  rintro e w2 ⟨rfl, hk⟩
  have HK2 : Hid (Keep0 w w2) := hid (Keep0.step (by repeat (with_reducible first | exact Keep.refl _ _ | exact HK1.out | apply Keep.alloc | apply Keep.drewN | apply Keep.drew)) hk)
  have THB := hk.blk (show Blk _ _ _ _ from by repeat (with_reducible first | exact HB.out | apply Blk.alloc | apply Blk.drewN | apply Blk.drew)) (fun h => h)
  clear hk qHB HB HK1
  have HB := hid THB
  clear THB
  have qHB := HB.out.k7
  clear HSZ
  go_wp2_with fail
  refine (HWO.out _ (by repeat (with_reducible first | exact Keep.refl _ _ | exact HK2.out | apply Keep.alloc | apply Keep.drewN | apply Keep.drew)) (by omega) (by omega)).mono ?_
  rintro e w3 ⟨wg, rfl, hwg, hk, hwge⟩
  generalize hN : b + 4 + s + 3 = N at *
  have HWF := hid (wf6 b s g gl l V U hgg)
  generalize words6 b g (zero6 b s gl l) V U s = WW at *
  have HN := hid hN
  have hln : WW.length = N := HWF.out.ln.trans hN
  have hN1 : b + 4 + s ≤ N := by omega
  have hN2 : N ≤ 22 := by omega
  clear hN
  have HWG := hid (Blk.ints hwg)
  have hwz : w.heap.size ≤ wg := Nat.le_trans HK2.out.size (by simpa using hwge)
  have HK3 : Hid (Keep0 w w3) := hid (Keep0.step (by repeat (with_reducible first | exact Keep.refl _ _ | exact HK2.out | apply Keep.alloc | apply Keep.drewN | apply Keep.drew)) hk)
  have THB := hk.blk (show Blk _ _ _ _ from by repeat (with_reducible first | exact HB.out | apply Blk.alloc | apply Blk.drewN | apply Blk.drew)) (fun h => h)
  clear hk qHB HB HK2
  have HB := hid THB
  clear THB
  have qHB := HB.out.k7
  clear hwg HWO hwge
  clear qHB HB
  go_wp2_with fail
  refine (law6_laid w.heap.size _ wg _ N WW HWG.out hln.symm (by omega) (by have := HK3.out.size; omega)).mono ?_
  rintro e w4 ⟨m, a, lv, rfl, hm, hk, hzm, hza⟩
  have hzm' : w.heap.size ≤ m := Nat.le_trans HK3.out.size hzm
  have hza' : w.heap.size ≤ a := Nat.le_trans HK3.out.size hza
  have hwgm : wg ≠ a := by have := HWG.out.lt; omega
  have HK4 : Hid (Keep0 w w4) := hid (Keep0.step (by repeat (with_reducible first | exact Keep.refl _ _ | exact HK3.out | apply Keep.alloc | apply Keep.drewN | apply Keep.drew)) hk)
  have THWG := hk.ints (show Ints _ _ _ from by repeat (with_reducible first | exact HWG.out | apply Ints.alloc | apply Ints.drewN | apply Ints.drew)) (fun h => h)
  clear hk HWG HK3
  have HWG := hid THWG
  clear THWG
  have HM := hid hm
  clear hm hzm hza
  clear HWG
  go_wp2_with fail
  refine (add_Sum b s HM.out (by omega) (by omega) (by omega)).mono ?_
  rintro e w5 ⟨rfl, hk⟩
  have HK5 : Hid (Keep0 w w5) := hid (Keep0.step (by repeat (with_reducible first | exact Keep.refl _ _ | exact HK4.out | apply Keep.alloc | apply Keep.drewN | apply Keep.drew)) hk)
  have THM := MemAt.same (by repeat (with_reducible first | exact HM.out | apply MemAt.alloc | apply MemAt.drew)) hk
  clear hk HM HK4
  have HM := hid THM
  clear THM
  have hsN : sumN WW b s = sP WW b s := sumN_eq (by rw [HWF.out.gl]; omega) s (by omega)
  rw [hsN]
  clear hsN
  go_wp2_with fail
  go_loopw [13, 14] (fun v13 v14 wr => ∃ (i : Nat) (S0 : Int), i ≤ D.length ∧ v14 = .int .i64 i ∧ v13 = .int .i64 S0 ∧ ∃ lv W L, MemAt w.heap.size wr m a lv W L ∧ RowI b s g l N W S0 i ∧ L.length ≤ 6 * i ∧ Keep0 w wr) (fun _ v _ => D.length - (intOf v).toNat)
  case atStart => exact ⟨0, sP WW b s, Nat.zero_le _, rfl, rfl, lv, WW, [], HM.out, ⟨hln, HWF.out.lv, HWF.out.gate, by rw [HWF.out.gl]; omega, rfl⟩, by simp, HK5.out⟩
  case round =>
    obtain ⟨i, S0, hi, rfl, rfl, lv, UU, LL, hm, hri, hll, hk⟩ := hrel
    clear HM HK5 HWF
    have HMR := hid hm
    have HKR := hid hk
    have HRI := hid hri
    clear hm hk hri
    by_cases hlt : i < D.length
    · obtain ⟨db, do_, rfl, hdc⟩ := (HD.out).cell (by omega)
      obtain ⟨tb, to_, rfl, htc⟩ := (HT.out).cell (by omega)
      have hil : (i : Int) < (D.length : Int) := by omega
      have hit : (i : Int) < (T.length : Int) := by omega
      have HDC : Hid (∀ w', Keep0 w w' → db < w'.heap.size ∧ w'.cell? ⟨db, do_ + i, none⟩ = some (.int .i32 (rd D i))) := hid (fun w' hk => by
        have h := hdc i hlt
        have hz := World.block_lt_of_cell? _ _ h
        exact ⟨Nat.lt_of_lt_of_le hz hk.size, by rw [cell_old hk hz (fun x => x)]; exact h⟩)
      have HTC : Hid (∀ w', Keep0 w w' → tb < w'.heap.size ∧ w'.cell? ⟨tb, to_ + i, none⟩ = some (.int .u16 (rd T i))) := hid (fun w' hk => by
        have h := htc i (by omega)
        have hz := World.block_lt_of_cell? _ _ h
        exact ⟨Nat.lt_of_lt_of_le hz hk.size, by rw [cell_old hk hz (fun x => x)]; exact h⟩)
      clear hdc htc
      have HDB := hid (hDb i hlt)
      have htb := hTb i (by omega)
      have hdb := tmod_bd (rd D i) 1048576 (by omega)
      obtain ⟨dd, hdd⟩ : ∃ dd, (rd D i).tmod 1048576 = dd := ⟨_, rfl⟩
      have HDD := hid hdd
      rw [hdd] at hdb
      clear hdd
      obtain ⟨tn, htn⟩ : ∃ n : Nat, (n : Int) = (rd T i) % 1001 := ⟨(rd T i % 1001).toNat, by omega⟩
      have htm : (rd T i).tmod 1001 = (tn : Int) := by rw [Int.tmod_eq_emod_of_nonneg htb.1]; exact htn.symm
      have htn2 : tn ≤ 1000 := by omega
      have yt : IntKind.i64.wrap (rd T i) = rd T i := IntWalk.i64_in _ (by omega)
      clear htn
      obtain ⟨x7, hx7⟩ : ∃ n : Nat, (n : Int) = dBegin (tn : Nat) := ⟨(dBegin (tn : Nat)).toNat, Int.toNat_of_nonneg (dBegin_bd _).1⟩
      have HX7 := hid hx7
      have hbx7 : (x7 : Int) < 4294967296 := by rw [hx7]; exact (dBegin_bd _).2
      clear hx7
      have hul : UU.length = N := HRI.out.ln
      have hgl := HRI.out.gl
      have HAI := hid (AInv.start (b := b) (s := s) (g := g) (d := dd) (W := UU) (L := LL) (x := (x7 : Int)) (by omega) (by omega) HP2.out.1 (by omega) (by omega) (by rw [HRI.out.lv]; exact HP2.out.2) (by omega))
      obtain ⟨t2, n1, hpl, h9, hLl, hal⟩ := alone (b := b) (s := s) (g := g) (d := dd) (L := LL) HAI.out (by omega) UU.length 14
      have HPL : Hid (∀ (x : Nat) (wx : World), MemAt w.heap.size wx m a lv UU LL → Blk wx x 83 (acs b s g dd ⟨UU, LL, 0, (x7 : Int), 0, 0, 0, 0⟩) → w.heap.size ≤ x → Keep0 w wx →
          Calls Try.prog 14 #[ptr m, .iface 37 (ptr x), .slice none 0 0, i64 20] wx fun e w2 => e = .returned (.tuple #[i64 (n1 : Int), .bool true]) ∧ ∃ lv', MemAt w.heap.size w2 m a lv' t2.W t2.L ∧ Keep0 w w2) := hid (by
        intro x wx hm hx hz h0
        have hp := play_add (B := w.heap.size) (w := wx) (m := m) (a := a) (x := x) (lv := lv) (b := b) (s := s) (g := g) (d := dd) ⟨UU, LL, 0, (x7 : Int), 0, 0, 0, 0⟩ [] none 0 0 0 20 hm hx HAI.out (by simp; omega) (by omega) (by simp) (by intro p hp; cases hp) (fun h => by simp at h) (fun i h => by simp at h)
        rw [show (AS.mk UU LL 0 (x7 : Int) 0 0 0 0).W.length = UU.length from rfl, show (20 : Nat) = 14 + 6 from rfl, hpl] at hp
        refine hp.mono ?_
        rintro e w2 ⟨rfl, ⟨kk, lv', hm2, _⟩, hk⟩
        exact ⟨rfl, lv', hm2, adplay_far hm hz hk w h0 (Nat.le_refl _)⟩)
      have hn6 : n1 ≤ 6 := by rcases hal.n36 with ⟨e, _⟩ | ⟨e, _⟩ <;> omega
      have HRN := hid (HRI.out.next hal)
      have HLN : Hid (t2.L.length ≤ 6 * (i + 1)) := hid (by omega)
      have hul2 : t2.W.length = N := HRN.out.ln
      have hgl2 := HRN.out.gl
      have hsb := sP_bd t2.W b s
      rw [HRN.out.sum] at hsb
      have HSU := hid (show sumN t2.W b s = S0 + dd from by rw [sumN_eq (by omega) s (by omega), HRN.out.sum])
      have ys : IntKind.i64.wrap (S0 + dd) = S0 + dd := IntWalk.i64_in _ (by omega)
      obtain ⟨q, hq⟩ : ∃ q, (s : Int) * ((g : Int) - 1) = q := ⟨_, rfl⟩
      have HQ := hid hq
      have hqb : 0 ≤ q ∧ q ≤ 8 * 39 := by rw [← hq]; exact ⟨Int.mul_nonneg (by omega) (by omega), Int.mul_le_mul (by omega) (by omega) (by omega) (by omega)⟩
      have HGP := hid (show rd t2.W b - q ≤ S0 + dd ∧ S0 + dd ≤ rd t2.W b + q from by have h := sP_gate HRN.out.gate s (Nat.le_refl _); rw [HRN.out.sum, hq] at h; exact h)
      clear hq hpl h9 hLl hal HAI HRI
      go_wp2_with fail
      apply wp_region_free (WI := WRow w w.heap.size m a lv UU LL t2.W t2.L x7 b s g dd) (by kernel_rfl) (by kernel_rfl)
      case hob =>
        apply ObligF.fixed
        case h =>
          intro S gh w1 hwi hSi hd hcl
          apply StepOk.intro
          intro K hK
          go_simp
          apply hK
          · rfl
          · conv => (lhs; whnf)
          · exact hwi.fixed (by decide)
        simp only [put_lit, put_none]
        try dsimp only [List.set_cons_succ, List.set_cons_zero]
        apply ObligF.fixed
        case h =>
          intro S gh w1 hwi hSi hd hcl
          apply StepOk.intro
          intro K hK
          go_simp
          apply hK
          · rfl
          · conv => (lhs; whnf)
          · exact hwi.fixed (by decide)
        simp only [put_lit, put_none]
        try dsimp only [List.set_cons_succ, List.set_cons_zero]
        apply ObligF.fixed
        case h =>
          intro S gh w1 hwi hSi hd hcl
          apply StepOk.intro
          intro K hK
          go_simp
          apply hK
          · rfl
          · conv => (lhs; whnf)
          · exact hwi.fixed (by decide)
        simp only [put_lit, put_none]
        try dsimp only [List.set_cons_succ, List.set_cons_zero]
        apply ObligF.fixed
        case h =>
          intro S gh w1 hwi hSi hd hcl
          apply StepOk.intro
          intro K hK
          go_simp
          apply hK
          · rfl
          · conv => (lhs; whnf)
          · exact hwi.fixed (by decide)
        simp only [put_lit, put_none]
        try dsimp only [List.set_cons_succ, List.set_cons_zero]
        apply ObligF.fixed
        case h =>
          intro S gh w1 hwi hSi hd hcl
          apply StepOk.intro
          intro K hK
          go_simp
          apply hK
          · rfl
          · conv => (lhs; whnf)
          · exact hwi.fixed (by decide)
        simp only [put_lit, put_none]
        try dsimp only [List.set_cons_succ, List.set_cons_zero]
        apply ObligF.fixed
        case h =>
          intro S gh w1 hwi hSi hd hcl
          apply StepOk.intro
          intro K hK
          go_simp
          apply hK
          · rfl
          · conv => (lhs; whnf)
          · exact hwi.fixed (by decide)
        simp only [put_lit, put_none]
        try dsimp only [List.set_cons_succ, List.set_cons_zero]
        apply ObligF.fixed
        case h =>
          intro S gh w1 hwi hSi hd hcl
          apply StepOk.intro
          intro K hK
          go_simp
          apply hK
          · rfl
          · conv => (lhs; whnf)
          · exact hwi.fixed (by decide)
        simp only [put_lit, put_none]
        try dsimp only [List.set_cons_succ, List.set_cons_zero]
        apply ObligF.fixed
        case h =>
          intro S gh w1 hwi hSi hd hcl
          apply StepOk.intro
          intro K hK
          obtain ⟨zq, cq⟩ := HDC.out w1 hwi.1
          go_simp
          apply hK
          · rfl
          · conv => (lhs; whnf)
          · exact hwi.fixed (by decide)
        simp only [put_lit, put_none]
        try dsimp only [List.set_cons_succ, List.set_cons_zero]
        apply ObligF.fixed
        case h =>
          intro S gh w1 hwi hSi hd hcl
          apply StepOk.intro
          intro K hK
          go_simp
          refine (show Calls Try.prog 16 #[.int .i32 (rd D i)] w1 (fun e w' => e = .returned (i64 dd) ∧ w1 = w') from by rw [← HDD.out]; exact law6_amount _ _ HDB.out).mono ?_
          rintro e w2 ⟨rfl, rfl⟩
          apply hK
          · rfl
          · conv => (lhs; whnf)
          · exact hwi.fixed (by decide)
        simp only [put_lit, put_none]
        try dsimp only [List.set_cons_succ, List.set_cons_zero]
        apply ObligF.fixed
        case h =>
          intro S gh w1 hwi hSi hd hcl
          apply StepOk.intro
          intro K hK
          go_simp
          apply hK
          · rfl
          · conv => (lhs; whnf)
          · exact hwi.fixed (by decide)
        simp only [put_lit, put_none]
        try dsimp only [List.set_cons_succ, List.set_cons_zero]
        apply ObligF.fixed
        case h =>
          intro S gh w1 hwi hSi hd hcl
          apply StepOk.intro
          intro K hK
          go_simp
          apply hK
          · rfl
          · conv => (lhs; whnf)
          · exact hwi.fixed (by decide)
        simp only [put_lit, put_none]
        try dsimp only [List.set_cons_succ, List.set_cons_zero]
        apply ObligF.fixed
        case h =>
          intro S gh w1 hwi hSi hd hcl
          apply StepOk.intro
          intro K hK
          go_simp
          apply hK
          · rfl
          · conv => (lhs; whnf)
          · exact hwi.fixed (by decide)
        simp only [put_lit, put_none]
        try dsimp only [List.set_cons_succ, List.set_cons_zero]
        apply ObligF.fixed
        case h =>
          intro S gh w1 hwi hSi hd hcl
          apply StepOk.intro
          intro K hK
          obtain ⟨zq, cq⟩ := HTC.out w1 hwi.1
          go_simp
          apply hK
          · rfl
          · conv => (lhs; whnf)
          · exact hwi.fixed (by decide)
        simp only [put_lit, put_none]
        try dsimp only [List.set_cons_succ, List.set_cons_zero]
        apply ObligF.fixed
        case h =>
          intro S gh w1 hwi hSi hd hcl
          apply StepOk.intro
          intro K hK
          go_simp
          apply hK
          · rfl
          · conv => (lhs; whnf)
          · exact hwi.fixed (by decide)
        simp only [put_lit, put_none]
        try dsimp only [List.set_cons_succ, List.set_cons_zero]
        apply ObligF.fixed
        case h =>
          intro S gh w1 hwi hSi hd hcl
          apply StepOk.intro
          intro K hK
          go_simp
          apply hK
          · rfl
          · conv => (lhs; whnf)
          · exact hwi.fixed (by decide)
        simp only [put_lit, put_none]
        try dsimp only [List.set_cons_succ, List.set_cons_zero]
        apply ObligF.free
        case h =>
          intro S gh w1 hwi hSi hd hcl
          apply StepG.intro
          intro K hK
          go_simp
          refine (add_New b s g dd tn _ (by omega) x7 HX7.out).mono ?_
          rintro e w2 ⟨x, rfl, hx, hk, hbx⟩
          apply hK
          · rfl
          · exact hwi.made hSi (fun h => (hcl 16 _ rfl h) ⟨15, .data⟩ (by simp) rfl) (fun h => (hcl 17 _ rfl h) ⟨16, .data⟩ (by simp) rfl) (Keep0.step hwi.1 hk) hk (Nat.le_trans hwi.1.size hx) hbx
        simp only [put_lit, put_none]
        try dsimp only [List.set_cons_succ, List.set_cons_zero]
        apply ObligF.free
        case h =>
          intro S gh w1 hwi hSi hd hcl
          apply StepG.intro
          intro K hK
          obtain ⟨x, e1, hx, hbx⟩ := hwi.2.2.1 (hd ⟨15, .data⟩ (by simp) rfl)
          rw [e1]
          go_simp
          apply hK
          · rfl
          · exact hwi.boxed hSi (fun h => (hcl 17 _ rfl h) ⟨16, .data⟩ (by simp) rfl) hx hbx
        simp only [put_lit, put_none]
        try dsimp only [List.set_cons_succ, List.set_cons_zero]
        apply ObligF.fixed
        case h =>
          intro S gh w1 hwi hSi hd hcl
          apply StepOk.intro
          intro K hK
          obtain ⟨x, e1, hx, hbx⟩ := hwi.2.2.2.1 (hd ⟨16, .data⟩ (by simp) rfl)
          rw [e1]
          go_simp
          refine (HPL.out x w1 (hwi.2.1 hSi) (hbx hSi) hx hwi.1).mono ?_
          rintro e w2 ⟨rfl, lv', hm, hk⟩
          apply hK
          · rfl
          · conv => (lhs; whnf)
          · exact hwi.played hk hm
        simp only [put_lit, put_none]
        try dsimp only [List.set_cons_succ, List.set_cons_zero]
        apply ObligF.fixed
        case h =>
          intro S gh w1 hwi hSi hd hcl
          apply StepOk.intro
          intro K hK
          go_simp
          apply hK
          · rfl
          · conv => (lhs; whnf)
          · exact hwi.fixed (by decide)
        simp only [put_lit, put_none]
        try dsimp only [List.set_cons_succ, List.set_cons_zero]
        apply ObligF.fixed
        case h =>
          intro S gh w1 hwi hSi hd hcl
          apply StepOk.intro
          intro K hK
          go_simp
          apply hK
          · rfl
          · conv => (lhs; whnf)
          · exact hwi.fixed (by decide)
        simp only [put_lit, put_none]
        try dsimp only [List.set_cons_succ, List.set_cons_zero]
        apply ObligF.fixed
        case h =>
          intro S gh w1 hwi hSi hd hcl
          apply StepOk.intro
          intro K hK
          go_simp
          apply hK
          · rfl
          · conv => (lhs; whnf)
          · exact hwi.fixed (by decide)
        simp only [put_lit, put_none]
        try dsimp only [List.set_cons_succ, List.set_cons_zero]
        apply ObligF.fixed
        case h =>
          intro S gh w1 hwi hSi hd hcl
          apply StepOk.intro
          intro K hK
          go_simp
          apply hK
          · rfl
          · conv => (lhs; whnf)
          · exact hwi.fixed (by decide)
        simp only [put_lit, put_none]
        try dsimp only [List.set_cons_succ, List.set_cons_zero]
        apply ObligF.fixed
        case h =>
          intro S gh w1 hwi hSi hd hcl
          apply StepOk.intro
          intro K hK
          go_simp
          apply hK
          · rfl
          · conv => (lhs; whnf)
          · exact hwi.fixed (by decide)
        simp only [put_lit, put_none]
        try dsimp only [List.set_cons_succ, List.set_cons_zero]
        exact ObligF.nil
      case h0 =>
        exact WRow.start (HKR.out.drew) (HMR.out.same (Keep.refl _ _).drew)
      case hend =>
        intro S gh wx hwi hall
        obtain ⟨lv2, hm2⟩ := hwi.2.2.2.2 (hall 17 (by decide))
        have HK9 : Hid (Keep0 w wx) := hid hwi.1
        have HM9 := hid hm2
        have hdcq := HDC.out _ HK9.out
        obtain ⟨zq, cq⟩ := hdcq
        clear hwi hall hm2 HMR HKR HPL HDC HTC HX7
        go_wp2_with fail
        refine (show Calls Try.prog 16 #[.int .i32 (rd D i)] _ (fun e w' => e = .returned (i64 dd) ∧ _ = w') from by rw [← HDD.out]; exact law6_amount _ _ HDB.out).mono ?_
        rintro e w0 ⟨rfl, rfl⟩
        go_wp2_with fail
        refine (show Calls Try.prog 13 #[ptr m, i64 (b : Int), i64 (s : Int)] _ (Ret (i64 (S0 + dd)) _) from by rw [← HSU.out]; exact add_Sum b s HM9.out (by omega) (by omega) (by omega)).mono ?_
        rintro e w10 ⟨rfl, hk⟩
        have HK10 : Hid (Keep0 w w10) := hid (Keep0.step (by repeat (with_reducible first | exact Keep.refl _ _ | exact HK9.out | apply Keep.alloc | apply Keep.drewN | apply Keep.drew)) hk)
        have THM9 := MemAt.same (by repeat (with_reducible first | exact HM9.out | apply MemAt.alloc | apply MemAt.drew)) hk
        clear hk HM9 HK9
        have HM9 := hid THM9
        clear THM9
        go_wp2_with fail
        have hwd := mem_Words HM9.out (by omega)
        rw [hul2] at hwd
        refine hwd.mono ?_
        rintro e w11 ⟨vg, vc, rfl, hvi, hk, _⟩
        have HK11 : Hid (Keep0 w w11) := hid (Keep0.step (by repeat (with_reducible first | exact Keep.refl _ _ | exact HK10.out | apply Keep.alloc | apply Keep.drewN | apply Keep.drew)) hk)
        have THM9 := MemAt.same (by repeat (with_reducible first | exact HM9.out | apply MemAt.alloc | apply MemAt.drew)) hk
        clear hk HM9 HK10
        have HM9 := hid THM9
        clear THM9
        have HVG := hid hvi
        clear hvi hwd
        have c1 := HVG.out.cell b (by omega)
        have z1 := HVG.out.lt
        have hx0 : (b : Int) < (N : Int) := by omega
        have yb4 : IntKind.i64.wrap ((b : Int) + 4) = (b : Int) + 4 := IntWalk.i64_in _ (by omega)
        have yb5 : IntKind.i64.wrap ((b : Int) + 4 + (s : Int)) = (b : Int) + 4 + (s : Int) := IntWalk.i64_in _ (by omega)
        have hge : decide ((N : Int) < (b : Int) + 4 + (s : Int)) = false := by simp; omega
        have yg1 : IntKind.i64.wrap ((g : Int) - 1) = (g : Int) - 1 := IntWalk.i64_in _ (by omega)
        have yg2 : IntKind.i64.wrap ((s : Int) * ((g : Int) - 1)) = q := by rw [HQ.out]; exact IntWalk.i64_in _ (by omega)
        have yg3 : IntKind.i64.wrap (-(s : Int)) = -(s : Int) := IntWalk.i64_in _ (by omega)
        have yg4 : IntKind.i64.wrap (-(s : Int) * ((g : Int) - 1)) = -q := by rw [Int.neg_mul, HQ.out]; exact IntWalk.i64_in _ (by omega)
        have hgp := HGP.out
        generalize hrb : rd t2.W b = rb at *
        have yg5 : IntKind.i64.wrap (S0 + dd - rb) = S0 + dd - rb := IntWalk.i64_in _ (by omega)
        have hg1 : decide (q < S0 + dd - rb) = false := by simp; omega
        have hg2 : decide (S0 + dd - rb < -q) = false := by simp; omega
        have HRB := hid hrb
        clear hrb hgp
        by_cases h1 : g = 1
        · have hq : rb = S0 + dd := by
            have h2 := HQ.out
            rw [h1] at h2
            have h3 := HGP.out
            have h4 := HRB.out
            simp at h2
            omega
          have hqq : (rb != S0 + dd) = false := by simpa using hq
          have hgb : ((g : Int) == 1) = true := by simp [h1]
          clear hq h1
          go_wp2_with fail
          go_roundw
          case rel => exact ⟨i + 1, S0 + dd, by omega, by go_num, by go_num, lv2, t2.W, t2.L, HM9.out, HRN.out, HLN.out, HK11.out⟩
          case measure => simp [intOf]; omega
        · have hgb : ((g : Int) == 1) = false := by simp; omega
          go_wp2_with fail
          go_roundw
          case rel => exact ⟨i + 1, S0 + dd, by omega, by go_num, by go_num, lv2, t2.W, t2.L, HM9.out, HRN.out, HLN.out, HK11.out⟩
          case measure => simp [intOf]; omega
    · obtain rfl : i = D.length := by omega
      go_wp2_with fail
      go_ret
      exact ⟨rfl, HKR.out⟩
end Go.Proofs.Ytchlmaphaeoplaa
