/- AddTwo: two machines that step by turns, in whatever order, add both numbers, when both are at their ends; then all that was begun is done. -/
import Derived.Test.YtchlmaphaeoplaaHeadSix
import Derived.Test.YtchlmaphaeoplaaLawSixE
import Derived.Test.YtchlmaphaeoplaaRowSix
import Derived.Test.YtchlmaphaeoplaaAddM
namespace Go.Proofs.Ytchlmaphaeoplaa
open Go.RowKit
set_option linter.unusedVariables false
set_option linter.unusedSimpArgs false
set_option maxRecDepth 100000
/-- two machines of one counter -/
structure Two6 (b s : Nat) (g d e : Int) (N : Nat) (S0 : Int) (tx ty : AS) : Prop where
  ix : MI6 b s g d tx
  iy : MI6 b s g e ty
  w : ty.W = tx.W
  l : ty.L = tx.L
  ln : tx.W.length = N
  sum : sP tx.W b s = S0 + cb d tx + cb e ty
  bd : rd tx.W (b + 1) = rd tx.W (b + 2) + ob tx + ob ty
  gl : -4294967296 - 8796093022208 * tx.L.length ≤ rd tx.W b ∧ rd tx.W b ≤ 4294967296 + 8796093022208 * tx.L.length
  bg : 0 ≤ rd tx.W (b + 1) ∧ rd tx.W (b + 1) ≤ tx.L.length
  dn : 0 ≤ rd tx.W (b + 2) ∧ rd tx.W (b + 2) ≤ tx.L.length
/-- a machine whose words another one left -/
def AS.at (t u : AS) : AS := { t with W := u.W, L := u.L }
section
variable {b s N : Nat} {g d e S0 : Int} {tx ty : AS}
theorem Two6.swap (h : Two6 b s g d e N S0 tx ty) : Two6 b s g e d N S0 ty tx :=
  ⟨h.iy, h.ix, h.w.symm, h.l.symm, by rw [h.w]; exact h.ln, by rw [h.w, h.sum]; omega, by rw [h.w, h.bd]; omega, by rw [h.w, h.l]; exact h.gl, by rw [h.w, h.l]; exact h.bg, by rw [h.w, h.l]; exact h.dn⟩
theorem Two6.stepx (h : Two6 b s g d e N S0 tx ty) (h9 : tx.st ≠ 9) (hL : tx.L.length ≤ 10000) : Two6 b s g d e N S0 (aNext b s g d tx) (ty.at (aNext b s g d tx)) := by
  have hgl := h.gl
  have hbg := h.bg
  have hdn := h.dn
  have hs := h.ix.stepL (by omega) (by omega) (by omega)
  have hl := aNext_log (b := b) (s := s) (g := g) (d := d) tx (by have := h.ix.inv.nx; omega)
  have hn := aNext_len (b := b) (s := s) (g := g) (d := d) tx
  have hc : cb e (ty.at (aNext b s g d tx)) = cb e ty := rfl
  have ho : ob (ty.at (aNext b s g d tx)) = ob ty := rfl
  have s1 := hs.sum
  have s2 := hs.bd
  have s3 := hs.gl
  have s4 := hs.bg
  have s5 := hs.dn
  have t1 := h.sum
  have t2 := h.bd
  refine ⟨h.ix.step, h.iy.other _ _ (by rw [hn, h.w]) h.ix.step.inv.lw, rfl, rfl, hn.trans h.ln, ?_, ?_, by rw [hl]; omega, by rw [hl]; omega, by rw [hl]; omega⟩
  · rw [hc]; omega
  · rw [ho]; omega
/-- two machines, and their Mem, as they lie -/
def TW (w : World) (m a x y b s : Nat) (g d e : Int) (N : Nat) (S0 : Int) (tx ty : AS) (wx : World) : Prop :=
  ∃ lv, MemAt w.heap.size wx m a lv tx.W tx.L ∧ Blk wx x 83 (acs b s g d tx) ∧ Blk wx y 83 (acs b s g e ty) ∧ Two6 b s g d e N S0 tx ty ∧ Keep0 w wx
variable {w wx : World} {m a x y : Nat}
theorem TW.swap (h : TW w m a x y b s g d e N S0 tx ty wx) : TW w m a y x b s g e d N S0 ty tx wx := by
  obtain ⟨lv, h1, h2, h3, h4, h5⟩ := h
  exact ⟨lv, by rw [h4.w, h4.l]; exact h1, h3, h2, h4.swap, h5⟩
theorem TW.stepx (h : TW w m a x y b s g d e N S0 tx ty wx) (hxy : y ≠ x) (hx : w.heap.size ≤ x) (h9 : tx.st ≠ 9) (hL : tx.L.length ≤ 10000) :
    Calls Try.prog 18 #[ptr x, ptr m] wx fun r w' => r = .returned (.bool (decide ((aNext b s g d tx).st = 9))) ∧ TW w m a x y b s g d e N S0 (aNext b s g d tx) (ty.at (aNext b s g d tx)) w' := by
  obtain ⟨lv, h1, h2, h3, h4, h5⟩ := h
  refine (addS_Step tx h1 h2 h4.ix.inv (by omega)).mono ?_
  rintro r w2 ⟨rfl, lv2, hm2, hx2, hk2, hl2⟩
  refine ⟨rfl, lv2, hm2, hx2, hk2.blk h3 ?_, h4.stepx h9 hL, keep_far6 h5 hk2 ?_⟩
  · rintro ((h | h | h) | h)
    · exact h3.ne h1.mem (by decide) h
    · exact h3.ne h1.words (by decide) h
    · exact ownBlock_ne h1.log h3 (by decide) h.symm
    · exact hxy h
  · rintro k ((rfl | rfl | h) | rfl)
    · exact h1.bm
    · exact h1.ba
    · exact (h1.log.lt k h).1
    · exact hx
theorem TW.stepy (h : TW w m a x y b s g d e N S0 tx ty wx) (hxy : x ≠ y) (hy : w.heap.size ≤ y) (h9 : ty.st ≠ 9) (hL : tx.L.length ≤ 10000) :
    Calls Try.prog 18 #[ptr y, ptr m] wx fun r w' => r = .returned (.bool (decide ((aNext b s g e ty).st = 9))) ∧ TW w m a x y b s g d e N S0 (tx.at (aNext b s g e ty)) (aNext b s g e ty) w' := by
  have hl : ty.L.length ≤ 10000 := by obtain ⟨_, _, _, _, h4, _⟩ := h; rw [h4.l]; exact hL
  refine (h.swap.stepx hxy hy h9 hl).mono ?_
  rintro r w2 ⟨e1, h2⟩
  exact ⟨e1, h2.swap⟩
end
set_option maxHeartbeats 8000000 in
theorem addTwo_walk {w : World} {v0 v3 : Value} (hc : CounterIn w v0) (d : Int) (hd : (Lit.int .i32 d).wf = true) (d2 : Int) (hd2 : (Lit.int .i32 d2).wf = true) (hP0 : ∃ n f, BsIn w v3 n f) : Calls Try.prog 5 #[v0, .int .i32 d, .int .i32 d2, v3] w (Ret (.bool true) w) := by
  have hd := bounds_i32 hd
  have hd2 := bounds_i32 hd2
  have hdw := hd
  have hdw2 := hd2
  obtain ⟨pn, f, PA, pc, rfl, _, hP⟩ := hP0
  have HPP := hid hP
  clear hP
  obtain ⟨ba, sr, ga, gl, li, VA, V, vc, UA, U, uc, rfl, h0, h1, h2, h3, h4, hV, hv1, hvb, hU, hu1, hub⟩ := hc
  obtain ⟨b, hb⟩ : ∃ b : Nat, (b : Int) = ba % 8 := ⟨(ba % 8).toNat, by omega⟩
  have hz1 := sz4_bd sr
  have hz2 := sz4_bd li
  obtain ⟨s, hs⟩ : ∃ s : Nat, (s : Int) = sz4 sr := ⟨(sz4 sr).toNat, by omega⟩
  obtain ⟨g, hg⟩ : ∃ g : Nat, (g : Int) = ga % 40 + 1 := ⟨(ga % 40 + 1).toNat, by omega⟩
  obtain ⟨l, hl⟩ : ∃ l : Nat, (l : Int) = min (sz4 li) (sz4 sr) := ⟨(min (sz4 li) (sz4 sr)).toNat, by omega⟩
  have HP2 := hid (show p2 (s : Int) ∧ p2 (l : Int) ∧ (l : Int) ≤ s from ⟨by rw [hs]; exact sz4_p2 _, by rw [hl]; exact (p2_min (sz4_p2 _) (sz4_p2 _)).1, by rw [hl, hs]; exact (p2_min (sz4_p2 _) (sz4_p2 _)).2⟩)
  have hbb : b ≤ 7 := by omega
  have hss : 1 ≤ s ∧ s ≤ 8 := by omega
  have hgg : 1 ≤ g ∧ g ≤ 40 := by omega
  have hll : 1 ≤ l ∧ l ≤ 8 := by omega
  have HSZ := hid (fun w' => law6_Size ba sr ga gl li VA V.length vc UA U.length uc w' h0 h1 h2 h4)
  rw [← hl, ← hb, ← hs, ← hg] at HSZ
  have HWO := hid (fun (w' : World) (hk : Keep0 w w') hv hu => law6_Words ba sr ga gl li VA V vc UA U uc w' b s g l h0 h1 h2 h4 h3 (hV.keep hk) (hU.keep hk) hv hu hvb hub hb hs hg hl)
  skip
  have HK0 : Hid (Keep0 w (w.alloc (.cells #[.int .u8 ba, .int .u8 sr, .int .u16 ga, .int .i32 gl, .int .u8 li, .slice VA V.length vc, .slice UA U.length uc] 26))) := hid ((Keep.refl _ _).alloc _)
  clear hV hU hv1 hu1 hvb hub h0 h1 h2 h4 hb hs hg hl hz1 hz2
  go_enter Try.func5, Try.ntmps5
  go_wp2_with fail
  have HB : Hid (Blk (w.alloc (.cells #[.int .u8 ba, .int .u8 sr, .int .u16 ga, .int .i32 gl, .int .u8 li, .slice VA V.length vc, .slice UA U.length uc] 26)) w.heap.size 26 [.int .u8 ba, .int .u8 sr, .int .u16 ga, .int .i32 gl, .int .u8 li, .slice VA V.length vc, .slice UA U.length uc]) := hid (Blk.made rfl rfl)
  have qHB := HB.out.k7
  refine (law6_head _).mono ?_
  rintro e w1 ⟨rfl, hk⟩
  have HK1 : Hid (Keep0 w w1) := hid (Keep0.step (by repeat (with_reducible first | exact Keep.refl _ _ | exact HK0.out | apply Keep.alloc | apply Keep.drewN | apply Keep.drew)) hk)
  have THB := hk.blk (show Blk _ _ _ _ from by repeat (with_reducible first | exact HB.out | apply Blk.alloc | apply Blk.drewN | apply Blk.drew)) (fun h => h)
  clear hk qHB HB HK0
  have HB := hid THB
  clear THB
  have qHB := HB.out.k7
  by_cases hgd0 : 200 < pn
  · go_wp2_with fail
    go_ret
    exact ⟨rfl, HK1.out⟩
  by_cases hgd1 : 20 < V.length
  · go_wp2_with fail
    go_ret
    exact ⟨rfl, HK1.out⟩
  by_cases hgd2 : 20 < U.length
  · go_wp2_with fail
    go_ret
    exact ⟨rfl, HK1.out⟩
  go_wp2_with fail
  refine (HSZ.out _).mono ?_
  rintro e w2 ⟨rfl, hk⟩
  have HK2 : Hid (Keep0 w w2) := hid (Keep0.step (by repeat (with_reducible first | exact Keep.refl _ _ | exact HK1.out | apply Keep.alloc | apply Keep.drewN | apply Keep.drew)) hk)
  have THB := hk.blk (show Blk _ _ _ _ from by repeat (with_reducible first | exact HB.out | apply Blk.alloc | apply Blk.drewN | apply Blk.drew)) (fun h => h)
  clear hk qHB HB HK1
  have HB := hid THB
  clear THB
  have qHB := HB.out.k7
  clear HSZ
  go_wp2_with fail
  refine (HWO.out _ (by repeat (with_reducible first | exact Keep.refl _ _ | exact HK2.out | apply Keep.alloc | apply Keep.drewN | apply Keep.drew)) (by omega) (by omega)).mono ?_
  rintro e w3 ⟨wg, rfl, hwg, hk, hwge⟩
  generalize hN : b + 4 + s + 3 = N at *
  have HWF := hid (wf6 b s g gl l V U hgg)
  generalize words6 b g (zero6 b s gl l) V U s = WW at *
  have HN := hid hN
  have hln : WW.length = N := HWF.out.ln.trans hN
  have hN1 : b + 4 + s ≤ N := by omega
  have hN2 : N ≤ 22 := by omega
  clear hN
  have HWG := hid (Blk.ints hwg)
  have hwz : w.heap.size ≤ wg := Nat.le_trans HK2.out.size (by simpa using hwge)
  have HK3 : Hid (Keep0 w w3) := hid (Keep0.step (by repeat (with_reducible first | exact Keep.refl _ _ | exact HK2.out | apply Keep.alloc | apply Keep.drewN | apply Keep.drew)) hk)
  have THB := hk.blk (show Blk _ _ _ _ from by repeat (with_reducible first | exact HB.out | apply Blk.alloc | apply Blk.drewN | apply Blk.drew)) (fun h => h)
  clear hk qHB HB HK2
  have HB := hid THB
  clear THB
  have qHB := HB.out.k7
  clear hwg HWO hwge
  clear qHB HB
  go_wp2_with fail
  refine (law6_laid w.heap.size _ wg _ N WW HWG.out hln.symm (by omega) (by have := HK3.out.size; omega)).mono ?_
  rintro e w4 ⟨m, a, lv, rfl, hm, hk, hzm, hza⟩
  have hzm' : w.heap.size ≤ m := Nat.le_trans HK3.out.size hzm
  have hza' : w.heap.size ≤ a := Nat.le_trans HK3.out.size hza
  have hwgm : wg ≠ a := by have := HWG.out.lt; omega
  have HK4 : Hid (Keep0 w w4) := hid (Keep0.step (by repeat (with_reducible first | exact Keep.refl _ _ | exact HK3.out | apply Keep.alloc | apply Keep.drewN | apply Keep.drew)) hk)
  have THWG := hk.ints (show Ints _ _ _ from by repeat (with_reducible first | exact HWG.out | apply Ints.alloc | apply Ints.drewN | apply Ints.drew)) (fun h => h)
  clear hk HWG HK3
  have HWG := hid THWG
  clear THWG
  have HM := hid hm
  clear hm hzm hza
  clear HWG
  go_wp2_with fail
  refine (add_Sum b s HM.out (by omega) (by omega) (by omega)).mono ?_
  rintro e w5 ⟨rfl, hk⟩
  have HK5 : Hid (Keep0 w w5) := hid (Keep0.step (by repeat (with_reducible first | exact Keep.refl _ _ | exact HK4.out | apply Keep.alloc | apply Keep.drewN | apply Keep.drew)) hk)
  have THM := MemAt.same (by repeat (with_reducible first | exact HM.out | apply MemAt.alloc | apply MemAt.drew)) hk
  clear hk HM HK4
  have HM := hid THM
  clear THM
  go_wp2_with fail
  refine (law6_amount d _ hd).mono ?_
  rintro e w0 ⟨rfl, rfl⟩
  go_wp2_with fail
  have hdb := tmod_bd d 1048576 (by omega)
  generalize hdd : d.tmod 1048576 = dd at *
  have HDD := hid hdd
  clear hdd
  obtain ⟨x7, hx7⟩ : ∃ n : Nat, (n : Int) = dBegin (0 : Nat) := ⟨(dBegin (0 : Nat)).toNat, Int.toNat_of_nonneg (dBegin_bd _).1⟩
  have hbx7 : (x7 : Int) < 4294967296 := by rw [hx7]; exact (dBegin_bd _).2
  refine (add_New b s g (dd) 0 _ (by omega) x7 hx7).mono ?_
  rintro e w6 ⟨x, rfl, hx, hk, hbx⟩
  have hzx : w.heap.size ≤ x := Nat.le_trans HK5.out.size hx
  have hlx := hx
  have HK6 : Hid (Keep0 w w6) := hid (Keep0.step (by repeat (with_reducible first | exact Keep.refl _ _ | exact HK5.out | apply Keep.alloc | apply Keep.drewN | apply Keep.drew)) hk)
  have THM := MemAt.same (by repeat (with_reducible first | exact HM.out | apply MemAt.alloc | apply MemAt.drew)) hk
  clear hk HM HK5
  have HM := hid THM
  clear THM
  clear hx hx7
  have HX := hid hbx
  clear hbx
  have hxz := HX.out.lt
  have HX1 := HX
  clear HX
  go_wp2_with fail
  refine (law6_amount d2 _ hd2).mono ?_
  rintro e w0 ⟨rfl, rfl⟩
  go_wp2_with fail
  have heb := tmod_bd d2 1048576 (by omega)
  generalize hee : d2.tmod 1048576 = ee at *
  have HEE := hid hee
  clear hee
  obtain ⟨y7, hy7⟩ : ∃ n : Nat, (n : Int) = dBegin (1 : Nat) := ⟨(dBegin (1 : Nat)).toNat, Int.toNat_of_nonneg (dBegin_bd _).1⟩
  have hby7 : (y7 : Int) < 4294967296 := by rw [hy7]; exact (dBegin_bd _).2
  refine (add_New b s g (ee) 1 _ (by omega) y7 hy7).mono ?_
  rintro e w7 ⟨y, rfl, hx, hk, hbx⟩
  have hzy : w.heap.size ≤ y := Nat.le_trans HK6.out.size hx
  have hly := hx
  have HK7 : Hid (Keep0 w w7) := hid (Keep0.step (by repeat (with_reducible first | exact Keep.refl _ _ | exact HK6.out | apply Keep.alloc | apply Keep.drewN | apply Keep.drew)) hk)
  have THM := MemAt.same (by repeat (with_reducible first | exact HM.out | apply MemAt.alloc | apply MemAt.drew)) hk
  have THX1 := hk.blk (show Blk _ _ _ _ from by repeat (with_reducible first | exact HX1.out | apply Blk.alloc | apply Blk.drewN | apply Blk.drew)) (fun h => h)
  clear hk HM HX1 HK6
  have HM := hid THM
  clear THM
  have HX1 := hid THX1
  clear THX1
  clear hx hy7
  have HX := hid hbx
  clear hbx
  have hyz := HX.out.lt
  have hxy : x ≠ y := by omega
  have hyx : y ≠ x := Ne.symm hxy
  have hgb := HWF.out.gl
  have hsb := sP_bd WW b s
  have hsN : sumN WW b s = sP WW b s := sumN_eq (by omega) s (by omega)
  rw [hsN]
  have hgl : -4294967296 - 8796093022208 * 0 ≤ rd WW b ∧ rd WW b ≤ 4294967296 + 8796093022208 * 0 := by omega
  have hA1 := AInv.start (b := b) (s := s) (g := g) (d := dd) (W := WW) (L := []) (x := (x7 : Int)) (by omega) (by omega) HP2.out.1 (by omega) (by omega) (by rw [HWF.out.lv]; exact HP2.out.2) (by omega)
  have hA2 := AInv.start (b := b) (s := s) (g := g) (d := ee) (W := WW) (L := []) (x := (y7 : Int)) (by omega) (by omega) HP2.out.1 (by omega) (by omega) (by rw [HWF.out.lv]; exact HP2.out.2) (by omega)
  have HT0 := hid (show TW w m a x y b s g dd ee N (sP WW b s) ⟨WW, [], 0, (x7 : Int), 0, 0, 0, 0⟩ ⟨WW, [], 0, (y7 : Int), 0, 0, 0, 0⟩ w7 from
    ⟨lv, HM.out, HX1.out, HX.out, ⟨⟨hA1, fun h => by simp at h⟩, ⟨hA2, fun h => by simp at h⟩, rfl, rfl, hln, by simp [cb], by rw [HWF.out.bg, HWF.out.dn]; simp [ob], by simpa using hgl, by rw [HWF.out.bg]; simp, by rw [HWF.out.dn]; simp⟩, HK7.out⟩)
  generalize hS0 : sP WW b s = S0 at *
  clear hS0 hsN hA1 hA2 hgl HM HX HX1 HK7 HWF hln hxz hyz
  have hS0 : -100000000000 ≤ S0 ∧ S0 ≤ 100000000000 := by omega
  clear hsb hgb
  have hpn : pn ≤ 200 := by omega
  go_wp2_with fail
  go_loopw [18, 19, 20] (fun v18 v19 v20 wr => ∃ (i : Nat) (tx ty : AS) (pb qb : Bool), i ≤ pn ∧ v20 = .int .i64 i ∧ v18 = .bool pb ∧ v19 = .bool qb ∧ pb = decide (tx.st = 9) ∧ qb = decide (ty.st = 9) ∧ TW w m a x y b s g dd ee N S0 tx ty wr ∧ tx.L.length ≤ i) (fun _ _ v _ => pn - (intOf v).toNat)
  case atStart => exact ⟨0, _, _, false, false, Nat.zero_le _, rfl, rfl, rfl, rfl, rfl, HT0.out, by simp⟩
  case round =>
    obtain ⟨i, tx, ty, pb, qb, hi, rfl, rfl, rfl, hpb, hqb, htw, hll⟩ := hrel
    have HTW := hid htw
    have HPB := hid hpb
    have HQB := hid hqb
    have HLL := hid hll
    clear htw hpb hqb hll HT0
    by_cases hlt : i < pn
    · have hil : (i : Int) < (pn : Int) := by omega
      obtain ⟨kw, hkw⟩ : ∃ lv, MemAt w.heap.size wr m a lv tx.W tx.L ∧ Keep0 w wr := by obtain ⟨lv, h1, _, _, _, h5⟩ := HTW.out; exact ⟨lv, h1, h5⟩
      obtain ⟨qb0, qo, rfl, hcell⟩ := (HPP.out.keep hkw.2).cell (by omega)
      have c1 := hcell i hlt
      have z1 := World.block_lt_of_cell? _ _ c1
      simp only at z1
      have hll := HLL.out
      have yi : IntKind.i64.wrap ((i : Int) + 1) = (i : Int) + 1 := IntWalk.i64_in _ (by omega)
      clear hkw hcell
      cases hf : f i
      · rw [hf] at c1
        cases qb
        · have h9 : ty.st ≠ 9 := by have h := HQB.out; simpa using h.symm
          go_wp2_with fail
          refine (HTW.out.stepy hxy hzy h9 (by omega)).mono ?_
          rintro r w9 ⟨rfl, ht⟩
          have HT9 := hid ht
          have hlg := aNext_log (b := b) (s := s) (g := g) (d := ee) ty (by obtain ⟨_, _, _, _, h4, _⟩ := HTW.out; have := h4.iy.inv.nx; omega)
          have hlw : ty.L.length = tx.L.length := by obtain ⟨_, _, _, _, h4, _⟩ := HTW.out; rw [h4.l]
          have HLN := hid (show (tx.at (aNext b s g ee ty)).L.length ≤ i + 1 from by show (aNext b s g ee ty).L.length ≤ _; omega)
          clear ht hlg hlw c1
          go_wp2_with fail
          go_roundw
          case rel => exact ⟨i + 1, tx.at (aNext b s g ee ty), aNext b s g ee ty, pb, _, by omega, by go_num, rfl, rfl, HPB.out, rfl, HT9.out, HLN.out⟩
          case measure => simp [intOf]; omega
        · go_wp2_with fail
          go_roundw
          case rel => exact ⟨i + 1, tx, ty, pb, true, by omega, by go_num, rfl, rfl, HPB.out, HQB.out, HTW.out, by omega⟩
          case measure => simp [intOf]; omega
      · rw [hf] at c1
        cases pb
        · have h9 : tx.st ≠ 9 := by have h := HPB.out; simpa using h.symm
          go_wp2_with fail
          refine (HTW.out.stepx hyx hzx h9 (by omega)).mono ?_
          rintro r w9 ⟨rfl, ht⟩
          have HT9 := hid ht
          have hlg := aNext_log (b := b) (s := s) (g := g) (d := dd) tx (by obtain ⟨_, _, _, _, h4, _⟩ := HTW.out; have := h4.ix.inv.nx; omega)
          have HLN := hid (show (aNext b s g dd tx).L.length ≤ i + 1 from by omega)
          have hk9 : Keep0 w w9 := by obtain ⟨_, _, _, _, _, h5⟩ := ht; exact h5
          obtain ⟨qb1, qo1, he1, hcell1⟩ := (HPP.out.keep hk9).cell (by omega)
          cases he1
          have c2 := hcell1 i hlt
          rw [hf] at c2
          have z2 := World.block_lt_of_cell? _ _ c2
          simp only at z2
          clear ht hlg c1 hk9 hcell1
          go_wp2_with fail
          go_roundw
          case rel => exact ⟨i + 1, aNext b s g dd tx, ty.at (aNext b s g dd tx), _, qb, by omega, by go_num, rfl, rfl, rfl, HQB.out, HT9.out, HLN.out⟩
          case measure => simp [intOf]; omega
        · go_wp2_with fail
          go_roundw
          case rel => exact ⟨i + 1, tx, ty, true, qb, by omega, by go_num, rfl, rfl, HPB.out, HQB.out, HTW.out, by omega⟩
          case measure => simp [intOf]; omega
    · obtain rfl : pn = i := by omega
      have HL0 := hid (show tx.L.length ≤ 200 from by have := HLL.out; omega)
      clear HLL
      go_wp2_with fail
      obtain ⟨w20, rfl⟩ : ∃ w20 : World, w20 = wr := ⟨_, rfl⟩
      obtain ⟨ux, hux⟩ : ∃ ux, ux = tx := ⟨_, rfl⟩
      obtain ⟨uy, huy⟩ : ∃ uy, uy = ty := ⟨_, rfl⟩
      rw [← hux] at HL0 HPB HTW
      rw [← huy] at HQB HTW
      clear hux huy
      go_loopw [18, 21] (fun v18 v21 wr => ∃ (n : Nat) (tx ty : AS) (pb : Bool), v21 = .int .i64 n ∧ v18 = .bool pb ∧ pb = decide (tx.st = 9) ∧ qb = decide (ty.st = 9) ∧ TW w m a x y b s g dd ee N S0 tx ty wr ∧ tx.L.length ≤ 200 + n ∧ need6 tx + n ≤ 10) (fun _ v _ => 10 - (intOf v).toNat)
      case atStart => exact ⟨0, ux, uy, pb, rfl, rfl, HPB.out, HQB.out, HTW.out, HL0.out, need6_le _⟩
      case round =>
        obtain ⟨n, tx, ty, pb, rfl, rfl, hpb, hqb, htw, hll, hnd⟩ := hrel
        clear HPB HQB HTW HL0
        have HTW := hid htw
        have HPB := hid hpb
        have HQB := hid hqb
        clear htw hpb hqb
        cases pb
        · have h9 : tx.st ≠ 9 := by have h := HPB.out; simpa using h.symm
          have hst := need6_step (t := tx) (by obtain ⟨_, _, _, _, h4, _⟩ := HTW.out; exact h4.ix.inv) h9
          have hn9 : decide ((n : Int) < 100) = true := by simp; omega
          have yn : IntKind.i64.wrap ((n : Int) + 1) = (n : Int) + 1 := IntWalk.i64_in _ (by omega)
          go_wp2_with fail
          refine (HTW.out.stepx hyx hzx h9 (by omega)).mono ?_
          rintro r w9 ⟨rfl, ht⟩
          have HT9 := hid ht
          have hlg := aNext_log (b := b) (s := s) (g := g) (d := dd) tx (by obtain ⟨_, _, _, _, h4, _⟩ := HTW.out; have := h4.ix.inv.nx; omega)
          have HLN := hid (show (aNext b s g dd tx).L.length ≤ 200 + (n + 1) from by omega)
          have HND := hid (show need6 (aNext b s g dd tx) + (n + 1) ≤ 10 from by omega)
          have hn10 : n < 10 := by omega
          clear ht hlg hst hnd hll
          go_wp2_with fail
          go_roundw
          case rel => exact ⟨n + 1, aNext b s g dd tx, ty.at (aNext b s g dd tx), _, by go_num, rfl, rfl, HQB.out, HT9.out, HLN.out, HND.out⟩
          case measure => simp [intOf]; omega
        · have HX9 := hid (show tx.st = 9 from by have h := HPB.out; simpa using h.symm)
          have HL0 := hid (show tx.L.length ≤ 210 from by omega)
          have hnl : n ≤ 10 := by omega
          have hn9 : decide ((n : Int) < 100) = true := by simp; omega
          clear hll hnd HPB
          go_wp2_with fail
          obtain ⟨w21, rfl⟩ : ∃ w21 : World, w21 = wr := ⟨_, rfl⟩
          obtain ⟨ux, hux⟩ : ∃ ux, ux = tx := ⟨_, rfl⟩
          obtain ⟨uy, huy⟩ : ∃ uy, uy = ty := ⟨_, rfl⟩
          rw [← hux] at HL0 HX9 HTW
          rw [← huy] at HQB HTW
          clear hux huy
          go_loopw [19, 22] (fun v19 v22 wr => ∃ (n : Nat) (tx ty : AS) (qb : Bool), v22 = .int .i64 n ∧ v19 = .bool qb ∧ tx.st = 9 ∧ qb = decide (ty.st = 9) ∧ TW w m a x y b s g dd ee N S0 tx ty wr ∧ tx.L.length ≤ 210 + n ∧ need6 ty + n ≤ 10) (fun _ v _ => 10 - (intOf v).toNat)
          case atStart => exact ⟨0, ux, uy, qb, rfl, rfl, HX9.out, HQB.out, HTW.out, HL0.out, need6_le _⟩
          case round =>
            obtain ⟨n, tx, ty, qb, rfl, rfl, hx9, hqb, htw, hll, hnd⟩ := hrel
            clear HQB HTW HL0 HX9
            have HTW := hid htw
            have HX9 := hid hx9
            have HQB := hid hqb
            clear htw hx9 hqb
            cases qb
            · have h9 : ty.st ≠ 9 := by have h := HQB.out; simpa using h.symm
              have hst := need6_step (t := ty) (by obtain ⟨_, _, _, _, h4, _⟩ := HTW.out; exact h4.iy.inv) h9
              have hn9 : decide ((n : Int) < 100) = true := by simp; omega
              have yn : IntKind.i64.wrap ((n : Int) + 1) = (n : Int) + 1 := IntWalk.i64_in _ (by omega)
              go_wp2_with fail
              refine (HTW.out.stepy hxy hzy h9 (by omega)).mono ?_
              rintro r w9 ⟨rfl, ht⟩
              have HT9 := hid ht
              have hlg := aNext_log (b := b) (s := s) (g := g) (d := ee) ty (by obtain ⟨_, _, _, _, h4, _⟩ := HTW.out; have := h4.iy.inv.nx; omega)
              have hlw : ty.L.length = tx.L.length := by obtain ⟨_, _, _, _, h4, _⟩ := HTW.out; rw [h4.l]
              have HLN := hid (show (tx.at (aNext b s g ee ty)).L.length ≤ 210 + (n + 1) from by show (aNext b s g ee ty).L.length ≤ _; omega)
              have HND := hid (show need6 (aNext b s g ee ty) + (n + 1) ≤ 10 from by omega)
              have hn10 : n < 10 := by omega
              clear ht hlg hst hnd hll hlw
              go_wp2_with fail
              go_roundw
              case rel => exact ⟨n + 1, tx.at (aNext b s g ee ty), aNext b s g ee ty, _, by go_num, rfl, HX9.out, rfl, HT9.out, HLN.out, HND.out⟩
              case measure => simp [intOf]; omega
            · have h9 : ty.st = 9 := by have h := HQB.out; simpa using h.symm
              obtain ⟨lvz, hm, _, _, h4, hkq⟩ := HTW.out
              have hsu := h4.sum
              have hbe := h4.bd
              have hg4 := h4.gl
              have hl4 := h4.ln
              have hb4 := h4.bg
              simp only [cb, ob, h9, HX9.out] at hsu hbe
              have HMM := hid hm
              have HKM := hid hkq
              obtain ⟨qv, hqv⟩ : ∃ qv, rd tx.W (b + 2) = qv := ⟨_, rfl⟩
              have HB2 := hid hqv
              have HB1 := hid (show rd tx.W (b + 1) = qv from by rw [← hqv]; simpa using hbe)
              have HSU := hid (show sumN tx.W b s = S0 + dd + ee from by rw [sumN_eq (by omega) s (by omega)]; simpa using hsu)
              have hnl : n ≤ 10 := by omega
              have hn9 : decide ((n : Int) < 100) = true := by simp; omega
              clear hm hkq h4 hsu hbe hg4 hqv hb4 hll hnd HTW HX9 HQB h9
              generalize tx.W = UU at *
              generalize tx.L = LL at *
              go_wp2_with fail
              have hwd := mem_Words HMM.out (by omega)
              rw [hl4] at hwd
              refine hwd.mono ?_
              rintro e wq ⟨vg, vc, rfl, hvi, hk, _⟩
              have HVG := hid hvi
              have HMQ := hid (HMM.out.same hk)
              have HKQ : Hid (Keep0 w wq) := hid (HKM.out.trans hk (fun _ _ h => h))
              clear hvi hk hwd HMM HKM
              have y4 : IntKind.i64.wrap ((b : Int) + 4) = (b : Int) + 4 := IntWalk.i64_in _ (by omega)
              have y5 : decide ((b : Int) + 4 ≤ (N : Int)) = true := by simp; omega
              have yb1 : IntKind.i64.wrap ((b : Int) + 1) = (b : Int) + 1 := IntWalk.i64_in _ (by omega)
              have yb2 : IntKind.i64.wrap ((b : Int) + 2) = (b : Int) + 2 := IntWalk.i64_in _ (by omega)
              have hx1 : (0 : Int) ≤ (b : Int) + 1 ∧ (b : Int) + 1 < (N : Int) ∧ ((b : Int) + 1).toNat = b + 1 := by omega
              have hx2 : (0 : Int) ≤ (b : Int) + 2 ∧ (b : Int) + 2 < (N : Int) ∧ ((b : Int) + 2).toNat = b + 2 := by omega
              have ys1 : IntKind.i64.wrap (S0 + dd) = S0 + dd := IntWalk.i64_in _ (by omega)
              have ys2 : IntKind.i64.wrap (S0 + dd + ee) = S0 + dd + ee := IntWalk.i64_in _ (by omega)
              go_wp2_with fail
              apply wp_region_text (WI := fun S wx => Keep0 wq wx) (by kernel_rfl) (by kernel_rfl)
              case hob =>
                apply Oblig.cons
                case h =>
                  intro S w1 hwi hSi hd hcl
                  apply StepOk.intro
                  intro K hK
                  go_simp
                  apply hK
                  · rfl
                  · conv => (lhs; whnf)
                  · exact hwi
                simp only [put_lit, put_none]
                try dsimp only [List.set_cons_succ, List.set_cons_zero]
                apply Oblig.cons
                case h =>
                  intro S w1 hwi hSi hd hcl
                  apply StepOk.intro
                  intro K hK
                  go_simp
                  apply hK
                  · rfl
                  · conv => (lhs; whnf)
                  · exact hwi
                simp only [put_lit, put_none]
                try dsimp only [List.set_cons_succ, List.set_cons_zero]
                apply Oblig.cons
                case h =>
                  intro S w1 hwi hSi hd hcl
                  apply StepOk.intro
                  intro K hK
                  go_simp
                  apply hK
                  · rfl
                  · conv => (lhs; whnf)
                  · exact hwi
                simp only [put_lit, put_none]
                try dsimp only [List.set_cons_succ, List.set_cons_zero]
                apply Oblig.cons
                case h =>
                  intro S w1 hwi hSi hd hcl
                  apply StepOk.intro
                  intro K hK
                  go_simp
                  apply hK
                  · rfl
                  · conv => (lhs; whnf)
                  · exact hwi
                simp only [put_lit, put_none]
                try dsimp only [List.set_cons_succ, List.set_cons_zero]
                apply Oblig.cons
                case h =>
                  intro S w1 hwi hSi hd hcl
                  apply StepOk.intro
                  intro K hK
                  go_simp
                  apply hK
                  · rfl
                  · conv => (lhs; whnf)
                  · exact hwi
                simp only [put_lit, put_none]
                try dsimp only [List.set_cons_succ, List.set_cons_zero]
                apply Oblig.cons
                case h =>
                  intro S w1 hwi hSi hd hcl
                  apply StepOk.intro
                  intro K hK
                  go_simp
                  apply hK
                  · rfl
                  · conv => (lhs; whnf)
                  · exact hwi
                simp only [put_lit, put_none]
                try dsimp only [List.set_cons_succ, List.set_cons_zero]
                apply Oblig.cons
                case h =>
                  intro S w1 hwi hSi hd hcl
                  apply StepOk.intro
                  intro K hK
                  go_simp
                  apply hK
                  · rfl
                  · conv => (lhs; whnf)
                  · exact hwi
                simp only [put_lit, put_none]
                try dsimp only [List.set_cons_succ, List.set_cons_zero]
                apply Oblig.cons
                case h =>
                  intro S w1 hwi hSi hd hcl
                  apply StepOk.intro
                  intro K hK
                  go_simp
                  apply hK
                  · rfl
                  · conv => (lhs; whnf)
                  · exact hwi
                simp only [put_lit, put_none]
                try dsimp only [List.set_cons_succ, List.set_cons_zero]
                apply Oblig.cons
                case h =>
                  intro S w1 hwi hSi hd hcl
                  apply StepOk.intro
                  intro K hK
                  go_simp
                  apply hK
                  · rfl
                  · conv => (lhs; whnf)
                  · exact hwi
                simp only [put_lit, put_none]
                try dsimp only [List.set_cons_succ, List.set_cons_zero]
                apply Oblig.cons
                case h =>
                  intro S w1 hwi hSi hd hcl
                  apply StepOk.intro
                  intro K hK
                  go_simp
                  apply hK
                  · rfl
                  · conv => (lhs; whnf)
                  · exact hwi
                simp only [put_lit, put_none]
                try dsimp only [List.set_cons_succ, List.set_cons_zero]
                apply Oblig.cons
                case h =>
                  intro S w1 hwi hSi hd hcl
                  apply StepOk.intro
                  intro K hK
                  go_simp
                  apply hK
                  · rfl
                  · conv => (lhs; whnf)
                  · exact hwi
                simp only [put_lit, put_none]
                try dsimp only [List.set_cons_succ, List.set_cons_zero]
                apply Oblig.cons
                case h =>
                  intro S w1 hwi hSi hd hcl
                  apply StepOk.intro
                  intro K hK
                  go_simp
                  refine (show Calls Try.prog 13 #[ptr m, i64 (b : Int), i64 (s : Int)] w1 (Ret (i64 (S0 + dd + ee)) w1) from by rw [← HSU.out]; exact add_Sum b s (HMQ.out.same hwi) (by omega) (by omega) (by omega)).mono ?_
                  rintro e w2 ⟨rfl, hk⟩
                  apply hK
                  · rfl
                  · conv => (lhs; whnf)
                  · exact Keep0.step hwi hk
                simp only [put_lit, put_none]
                try dsimp only [List.set_cons_succ, List.set_cons_zero]
                apply Oblig.cons
                case h =>
                  intro S w1 hwi hSi hd hcl
                  apply StepOk.intro
                  intro K hK
                  go_simp
                  apply hK
                  · rfl
                  · conv => (lhs; whnf)
                  · exact hwi
                simp only [put_lit, put_none]
                try dsimp only [List.set_cons_succ, List.set_cons_zero]
                apply Oblig.cons
                case h =>
                  intro S w1 hwi hSi hd hcl
                  apply StepOk.intro
                  intro K hK
                  go_simp
                  apply hK
                  · rfl
                  · conv => (lhs; whnf)
                  · exact hwi
                simp only [put_lit, put_none]
                try dsimp only [List.set_cons_succ, List.set_cons_zero]
                apply Oblig.cons
                case h =>
                  intro S w1 hwi hSi hd hcl
                  apply StepOk.intro
                  intro K hK
                  go_simp
                  refine (show Calls Try.prog 16 #[.int .i32 d] w1 (fun e w' => e = .returned (i64 dd) ∧ w1 = w') from by rw [← HDD.out]; exact law6_amount d _ hdw).mono ?_
                  rintro e w2 ⟨rfl, rfl⟩
                  apply hK
                  · rfl
                  · conv => (lhs; whnf)
                  · exact hwi
                simp only [put_lit, put_none]
                try dsimp only [List.set_cons_succ, List.set_cons_zero]
                apply Oblig.cons
                case h =>
                  intro S w1 hwi hSi hd hcl
                  apply StepOk.intro
                  intro K hK
                  go_simp
                  apply hK
                  · rfl
                  · conv => (lhs; whnf)
                  · exact hwi
                simp only [put_lit, put_none]
                try dsimp only [List.set_cons_succ, List.set_cons_zero]
                apply Oblig.cons
                case h =>
                  intro S w1 hwi hSi hd hcl
                  apply StepOk.intro
                  intro K hK
                  go_simp
                  apply hK
                  · rfl
                  · conv => (lhs; whnf)
                  · exact hwi
                simp only [put_lit, put_none]
                try dsimp only [List.set_cons_succ, List.set_cons_zero]
                apply Oblig.cons
                case h =>
                  intro S w1 hwi hSi hd hcl
                  apply StepOk.intro
                  intro K hK
                  go_simp
                  refine (show Calls Try.prog 16 #[.int .i32 d2] w1 (fun e w' => e = .returned (i64 ee) ∧ w1 = w') from by rw [← HEE.out]; exact law6_amount d2 _ hdw2).mono ?_
                  rintro e w2 ⟨rfl, rfl⟩
                  apply hK
                  · rfl
                  · conv => (lhs; whnf)
                  · exact hwi
                simp only [put_lit, put_none]
                try dsimp only [List.set_cons_succ, List.set_cons_zero]
                apply Oblig.cons
                case h =>
                  intro S w1 hwi hSi hd hcl
                  apply StepOk.intro
                  intro K hK
                  go_simp
                  apply hK
                  · rfl
                  · conv => (lhs; whnf)
                  · exact hwi
                simp only [put_lit, put_none]
                try dsimp only [List.set_cons_succ, List.set_cons_zero]
                apply Oblig.cons
                case h =>
                  intro S w1 hwi hSi hd hcl
                  apply StepOk.intro
                  intro K hK
                  go_simp
                  apply hK
                  · rfl
                  · conv => (lhs; whnf)
                  · exact hwi
                simp only [put_lit, put_none]
                try dsimp only [List.set_cons_succ, List.set_cons_zero]
                apply Oblig.cons
                case h =>
                  intro S w1 hwi hSi hd hcl
                  apply StepOk.intro
                  intro K hK
                  go_simp
                  apply hK
                  · rfl
                  · conv => (lhs; whnf)
                  · exact hwi
                simp only [put_lit, put_none]
                try dsimp only [List.set_cons_succ, List.set_cons_zero]
                apply Oblig.cons
                case h =>
                  intro S w1 hwi hSi hd hcl
                  apply StepOk.intro
                  intro K hK
                  go_simp
                  apply hK
                  · rfl
                  · conv => (lhs; whnf)
                  · exact hwi
                simp only [put_lit, put_none]
                try dsimp only [List.set_cons_succ, List.set_cons_zero]
                apply Oblig.cons
                case h =>
                  intro S w1 hwi hSi hd hcl
                  apply StepOk.intro
                  intro K hK
                  go_simp
                  apply hK
                  · rfl
                  · conv => (lhs; whnf)
                  · exact hwi
                simp only [put_lit, put_none]
                try dsimp only [List.set_cons_succ, List.set_cons_zero]
                apply Oblig.cons
                case h =>
                  intro S w1 hwi hSi hd hcl
                  apply StepOk.intro
                  intro K hK
                  go_simp
                  apply hK
                  · rfl
                  · conv => (lhs; whnf)
                  · exact hwi
                simp only [put_lit, put_none]
                try dsimp only [List.set_cons_succ, List.set_cons_zero]
                apply Oblig.cons
                case h =>
                  intro S w1 hwi hSi hd hcl
                  apply StepOk.intro
                  intro K hK
                  go_simp
                  apply hK
                  · rfl
                  · conv => (lhs; whnf)
                  · exact hwi
                simp only [put_lit, put_none]
                try dsimp only [List.set_cons_succ, List.set_cons_zero]
                apply Oblig.cons
                case h =>
                  intro S w1 hwi hSi hd hcl
                  apply StepOk.intro
                  intro K hK
                  go_simp
                  apply hK
                  · rfl
                  · conv => (lhs; whnf)
                  · exact hwi
                simp only [put_lit, put_none]
                try dsimp only [List.set_cons_succ, List.set_cons_zero]
                apply Oblig.cons
                case h =>
                  intro S w1 hwi hSi hd hcl
                  apply StepOk.intro
                  intro K hK
                  go_simp
                  apply hK
                  · rfl
                  · conv => (lhs; whnf)
                  · exact hwi
                simp only [put_lit, put_none]
                try dsimp only [List.set_cons_succ, List.set_cons_zero]
                apply Oblig.cons
                case h =>
                  intro S w1 hwi hSi hd hcl
                  apply StepOk.intro
                  intro K hK
                  go_simp
                  apply hK
                  · rfl
                  · conv => (lhs; whnf)
                  · exact hwi
                simp only [put_lit, put_none]
                try dsimp only [List.set_cons_succ, List.set_cons_zero]
                apply Oblig.cons
                case h =>
                  intro S w1 hwi hSi hd hcl
                  apply StepOk.intro
                  intro K hK
                  go_simp
                  apply hK
                  · rfl
                  · conv => (lhs; whnf)
                  · exact hwi
                simp only [put_lit, put_none]
                try dsimp only [List.set_cons_succ, List.set_cons_zero]
                apply Oblig.cons
                case h =>
                  intro S w1 hwi hSi hd hcl
                  apply StepOk.intro
                  intro K hK
                  go_simp
                  apply hK
                  · rfl
                  · conv => (lhs; whnf)
                  · exact hwi
                simp only [put_lit, put_none]
                try dsimp only [List.set_cons_succ, List.set_cons_zero]
                apply Oblig.cons
                case h =>
                  intro S w1 hwi hSi hd hcl
                  apply StepOk.intro
                  intro K hK
                  go_simp
                  apply hK
                  · rfl
                  · conv => (lhs; whnf)
                  · exact hwi
                simp only [put_lit, put_none]
                try dsimp only [List.set_cons_succ, List.set_cons_zero]
                apply Oblig.cons
                case h =>
                  intro S w1 hwi hSi hd hcl
                  apply StepOk.intro
                  intro K hK
                  go_simp
                  apply hK
                  · rfl
                  · conv => (lhs; whnf)
                  · exact hwi
                simp only [put_lit, put_none]
                try dsimp only [List.set_cons_succ, List.set_cons_zero]
                apply Oblig.cons
                case h =>
                  intro S w1 hwi hSi hd hcl
                  apply StepOk.intro
                  intro K hK
                  go_simp
                  apply hK
                  · rfl
                  · conv => (lhs; whnf)
                  · exact hwi
                simp only [put_lit, put_none]
                try dsimp only [List.set_cons_succ, List.set_cons_zero]
                apply Oblig.cons
                case h =>
                  intro S w1 hwi hSi hd hcl
                  apply StepOk.intro
                  intro K hK
                  have c1 := (hwi.ints HVG.out (fun h => h)).cell (b + 1) (by omega)
                  have z1 := (hwi.ints HVG.out (fun h => h)).lt
                  rw [HB1.out] at c1
                  go_simp
                  apply hK
                  · rfl
                  · conv => (lhs; whnf)
                  · exact hwi
                simp only [put_lit, put_none]
                try dsimp only [List.set_cons_succ, List.set_cons_zero]
                apply Oblig.cons
                case h =>
                  intro S w1 hwi hSi hd hcl
                  apply StepOk.intro
                  intro K hK
                  go_simp
                  apply hK
                  · rfl
                  · conv => (lhs; whnf)
                  · exact hwi
                simp only [put_lit, put_none]
                try dsimp only [List.set_cons_succ, List.set_cons_zero]
                apply Oblig.cons
                case h =>
                  intro S w1 hwi hSi hd hcl
                  apply StepOk.intro
                  intro K hK
                  go_simp
                  apply hK
                  · rfl
                  · conv => (lhs; whnf)
                  · exact hwi
                simp only [put_lit, put_none]
                try dsimp only [List.set_cons_succ, List.set_cons_zero]
                apply Oblig.cons
                case h =>
                  intro S w1 hwi hSi hd hcl
                  apply StepOk.intro
                  intro K hK
                  go_simp
                  apply hK
                  · rfl
                  · conv => (lhs; whnf)
                  · exact hwi
                simp only [put_lit, put_none]
                try dsimp only [List.set_cons_succ, List.set_cons_zero]
                apply Oblig.cons
                case h =>
                  intro S w1 hwi hSi hd hcl
                  apply StepOk.intro
                  intro K hK
                  go_simp
                  apply hK
                  · rfl
                  · conv => (lhs; whnf)
                  · exact hwi
                simp only [put_lit, put_none]
                try dsimp only [List.set_cons_succ, List.set_cons_zero]
                apply Oblig.cons
                case h =>
                  intro S w1 hwi hSi hd hcl
                  apply StepOk.intro
                  intro K hK
                  have c1 := (hwi.ints HVG.out (fun h => h)).cell (b + 2) (by omega)
                  have z1 := (hwi.ints HVG.out (fun h => h)).lt
                  rw [HB2.out] at c1
                  go_simp
                  apply hK
                  · rfl
                  · conv => (lhs; whnf)
                  · exact hwi
                simp only [put_lit, put_none]
                try dsimp only [List.set_cons_succ, List.set_cons_zero]
                apply Oblig.cons
                case h =>
                  intro S w1 hwi hSi hd hcl
                  apply StepOk.intro
                  intro K hK
                  go_simp
                  apply hK
                  · rfl
                  · conv => (lhs; whnf)
                  · exact hwi
                simp only [put_lit, put_none]
                try dsimp only [List.set_cons_succ, List.set_cons_zero]
                apply Oblig.cons
                case h =>
                  intro S w1 hwi hSi hd hcl
                  apply StepOk.intro
                  intro K hK
                  go_simp
                  apply hK
                  · rfl
                  · conv => (lhs; whnf)
                  · exact hwi
                simp only [put_lit, put_none]
                try dsimp only [List.set_cons_succ, List.set_cons_zero]
                apply Oblig.cons
                case h =>
                  intro S w1 hwi hSi hd hcl
                  apply StepOk.intro
                  intro K hK
                  go_simp
                  apply hK
                  · rfl
                  · conv => (lhs; whnf)
                  · exact hwi
                simp only [put_lit, put_none]
                try dsimp only [List.set_cons_succ, List.set_cons_zero]
                exact Oblig.nil
              case h0 =>
                exact (Keep.refl _ _).drew
              case hend =>
                intro S wx hwi hall
                have HKX := hid hwi
                clear hwi hall
                go_wp2_with fail
                go_ret
                exact ⟨rfl, HKQ.out.trans HKX.out (fun _ _ h => h)⟩
end Go.Proofs.Ytchlmaphaeoplaa
