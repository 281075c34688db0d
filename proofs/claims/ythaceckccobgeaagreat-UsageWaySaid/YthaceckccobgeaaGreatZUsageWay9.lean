/- Contracts and plain laws for UsageWay, part 9: what the walk of the law leans on. -/
import Derived.Test.YthaceckccobgeaaGreatZUsageWay8
namespace Go.Proofs.YthaceckccobgeaaGreat
open Go.RowKit
set_option linter.unusedVariables false
set_option linter.unusedSimpArgs false
set_option maxRecDepth 100000
section
variable {B m y : Nat} {p : P12} {t : S12} {a : Ad12} {pv av : Value} {R : Nat → Prop} {w : World}
set_option maxHeartbeats 4000000 in
theorem r12_step0go (hp : P12OK p) (ha : t.at_ < p.path.length) (hn : t.cl.n < p.K) (hci : CInv p.K p.q t.c) (hco : COk a.C p.K p.q p.K) (hth : p.th ≤ 1000) (hL : t.L.length ≤ 1000000000) (hfin : (cNext p.K p.th p.q t.c).fin = 0) (h : (stars (refO B m t.W t.L :: [Ass.blk y 83 (cs12 p a (((0 : Nat) : Int)) ((t.at_ : Nat)) (pv) (av) (t.live) (t.err) (t.on) (t.ond)), rP12 p a, rL12 p a, rH12 p a, r11O a.C p.K p.th a.yc t.cl])).At R w) :
 Calls Tryz.prog 12 #[ptr y, ptr m] w fun e w' => e = .returned (.bool false) ∧ Tr (stars ((refO B m (cNext p.K p.th p.q t.c).W (cNext p.K p.th p.q t.c).L) :: [Ass.blk y 83 (cs12 p a (((0 : Nat) : Int)) ((t.at_ : Nat)) (pv) (av) (t.live) (t.err) (t.on) (t.ond)), rP12 p a, rL12 p a, rH12 p a, r11O a.C p.K p.th a.yc (cNext p.K p.th p.q t.c)])) R w w' := by
 obtain ⟨w0, hw0⟩ : ∃ v, v = w := ⟨_, rfl⟩
 rw [← hw0] at h ⊢
 have HS := hid (show Sx R w0 [refO B m t.W t.L, Ass.blk y 83 (cs12 p a (((0 : Nat) : Int)) ((t.at_ : Nat)) (pv) (av) (t.live) (t.err) (t.on) (t.ond)), rP12 p a, rL12 p a, rH12 p a, r11O a.C p.K p.th a.yc t.cl] w0 from Sx.start h)
 clear h hw0
 obtain ⟨c, hcn⟩ : ∃ c, c = cNext p.K p.th p.q t.c := ⟨_, rfl⟩
 rw [← hcn] at hfin ⊢
 have HCN := hid hcn
 clear hcn
 have hs8 := hp.s8
 have hp1 := hp.p1
 have hk1 := hp.k1
 obtain ⟨ae, hae⟩ : ∃ ae : Int, ae = (if t.cl.fin = 2 then 3 else 0) := ⟨_, rfl⟩
 have HAE := hid hae
 clear hae
 have htk0 := fun w' => ref_Ticket p.tt p.s p.g p.lm p.r p.K (some ⟨a.pb, 0, none⟩) p.P.length a.pc (some ⟨a.lb, 0, none⟩) p.LL.length a.lc (t.cl.n : Int) w' (by omega) (by omega) (by omega) (by omega) (by omega)
 rw [show (p.P.length : Int) * (6 + 2 * (p.s : Int)) + 2 * (t.cl.n : Int) = ((t.tk p : Nat) : Int) from by unfold S12.tk P12.q; push_cast; rfl] at htk0
 have HTK := hid htk0
 clear htk0
 go_enter Tryz.func12, Tryz.ntmps12
 go_upto_region 1 with fail
 apply wp_region_text (WI := fun S wx => Keep0 w0 wx) (by kernel_rfl) (by kernel_rfl)
 case hob =>
  iterate 8
   apply Oblig.cons
   case h =>
    intro S w1 hwi hSi hd hcl
    apply StepOk.intro
    intro K hK
    obtain ⟨_, ⟨hb, _⟩, _⟩ := Sx.get (Sx.pick (Sx.keep HS.out hwi) 1 (by simp))
    have qy := hb.k22
    clear hb
    obtain ⟨_, ⟨hcl, _⟩, _⟩ := Sx.get (Sx.pick (Sx.keep HS.out hwi) 5 (by simp))
    go_simp
    apply hK
    · rfl
    · conv => (lhs; whnf)
    · exact hwi
   simp only [put_lit, put_none]
   try dsimp only [List.set_cons_succ, List.set_cons_zero]
  apply Oblig.cons
  case h =>
   intro S w1 hwi hSi hd hcl
   apply StepOk.intro
   intro K hK
   obtain ⟨_, ⟨hb, _⟩, _⟩ := Sx.get (Sx.pick (Sx.keep HS.out hwi) 1 (by simp))
   have qy := hb.k22
   clear hb
   obtain ⟨_, ⟨hcl, _⟩, _⟩ := Sx.get (Sx.pick (Sx.keep HS.out hwi) 5 (by simp))
   go_simp
   refine (show Calls Tryz.prog 48 _ w1 (Ret (.agg #[i64 ae, i64 (t.cl.n : Int), .bool false, i64 0]) w1) from by have h := r11_Ans t.cl hcl; unfold clAns at h; rw [← HAE.out] at h; exact h).mono ?_
   rintro e w2 ⟨rfl, hk⟩
   apply hK
   · rfl
   · conv => (lhs; whnf)
   · exact Keep0.step hwi hk
  simp only [put_lit, put_none]
  try dsimp only [List.set_cons_succ, List.set_cons_zero]
  apply Oblig.cons
  case h =>
   intro S w1 hwi hSi hd hcl
   apply StepOk.intro
   intro K hK
   obtain ⟨_, ⟨hb, _⟩, _⟩ := Sx.get (Sx.pick (Sx.keep HS.out hwi) 1 (by simp))
   have qy := hb.k22
   clear hb
   obtain ⟨_, ⟨hcl, _⟩, _⟩ := Sx.get (Sx.pick (Sx.keep HS.out hwi) 5 (by simp))
   go_simp
   apply hK
   · rfl
   · conv => (lhs; whnf)
   · exact hwi
  simp only [put_lit, put_none]
  try dsimp only [List.set_cons_succ, List.set_cons_zero]
  apply Oblig.cons
  case h =>
   intro S w1 hwi hSi hd hcl
   apply StepOk.intro
   intro K hK
   go_simp
   refine (HTK.out _).mono ?_
   rintro e w2 ⟨rfl, hk⟩
   apply hK
   · rfl
   · conv => (lhs; whnf)
   · exact Keep0.step hwi hk
  simp only [put_lit, put_none]
  try dsimp only [List.set_cons_succ, List.set_cons_zero]
  apply Oblig.cons
  case h =>
   intro S w1 hwi hSi hd hcl
   apply StepOk.intro
   intro K hK
   obtain ⟨_, ⟨hb, _⟩, _⟩ := Sx.get (Sx.pick (Sx.keep HS.out hwi) 1 (by simp))
   have qy := hb.k22
   clear hb
   obtain ⟨_, ⟨hcl, _⟩, _⟩ := Sx.get (Sx.pick (Sx.keep HS.out hwi) 5 (by simp))
   go_simp
   apply hK
   · rfl
   · conv => (lhs; whnf)
   · exact hwi
  simp only [put_lit, put_none]
  try dsimp only [List.set_cons_succ, List.set_cons_zero]
  exact Oblig.nil
 case h0 =>
  exact (Keep.refl _ _).drew
 case hend =>
  intro S wx hwi hall
  have hkx := hwi
  obtain ⟨w1, hwn⟩ : ∃ v, v = wx := ⟨_, rfl⟩
  rw [← hwn] at hkx ⊢
  have hs := hid (show Sx R w0 [refO B m t.W t.L, Ass.blk y 83 (cs12 p a (((0 : Nat) : Int)) ((t.at_ : Nat)) (pv) (av) (t.live) (t.err) (t.on) (t.ond)), rP12 p a, rL12 p a, rH12 p a, r11O a.C p.K p.th a.yc t.cl] w1 from Sx.keep HS.out hkx)
  clear hwi hall hkx hwn HS
  have HS := hs
  clear hs
  obtain ⟨_, ⟨hb, _⟩, _⟩ := Sx.get (show Sx R w0 [Ass.blk y 83 (cs12 p a (((0 : Nat) : Int)) ((t.at_ : Nat)) (pv) (av) (t.live) (t.err) (t.on) (t.ond)), refO B m t.W t.L, rP12 p a, rL12 p a, rH12 p a, r11O a.C p.K p.th a.yc t.cl] w1 from (Sx.pick (show Sx R w0 [refO B m t.W t.L, Ass.blk y 83 (cs12 p a (((0 : Nat) : Int)) ((t.at_ : Nat)) (pv) (av) (t.live) (t.err) (t.on) (t.ond)), rP12 p a, rL12 p a, rH12 p a, r11O a.C p.K p.th a.yc t.cl] w1 from by repeat (with_reducible first | exact HS.out | apply Sx.alloc | apply Sx.drewN | apply Sx.drew)) 1 (by simp)))
  have qy := hb.k22
  clear hb
  go_wp2_with fail
  refine Calls.mono (Sx.call (q := Ass.star (refO B m c.W c.L) (r11O a.C p.K p.th a.yc c)) (Sx.pair (show Sx R w0 [refO B m t.W t.L, r11O a.C p.K p.th a.yc t.cl, Ass.blk y 83 (cs12 p a (((0 : Nat) : Int)) ((t.at_ : Nat)) (pv) (av) (t.live) (t.err) (t.on) (t.ond)), rP12 p a, rL12 p a, rH12 p a] _ from (Sx.pick (Sx.pick (show Sx R w0 [refO B m t.W t.L, Ass.blk y 83 (cs12 p a (((0 : Nat) : Int)) ((t.at_ : Nat)) (pv) (av) (t.live) (t.err) (t.on) (t.ond)), rP12 p a, rL12 p a, rH12 p a, r11O a.C p.K p.th a.yc t.cl] _ from by repeat (with_reducible first | exact HS.out | apply Sx.alloc | apply Sx.drewN | apply Sx.drew)) 5 (by simp)) 1 (by simp)))) (fun Rq hr hz => (show Calls Tryz.prog 49 _ _ (fun e w' => e = .returned (.bool (decide (c.fin ≠ 0))) ∧ Tr _ Rq _ w') from by rw [HCN.out]; exact r11O_Step (t := t.c) hr hci hco (by omega) hL))) ?_
  rintro e w2 ⟨rfl, hs⟩
  clear HS
  have HS := hid (show Sx R w0 [refO B m c.W c.L, r11O a.C p.K p.th a.yc c, Ass.blk y 83 (cs12 p a (((0 : Nat) : Int)) ((t.at_ : Nat)) (pv) (av) (t.live) (t.err) (t.on) (t.ond)), rP12 p a, rL12 p a, rH12 p a] w2 from Sx.part hs)
  clear hs
  clear qy
  obtain ⟨_, ⟨hb, _⟩, _⟩ := Sx.get (show Sx R w0 [Ass.blk y 83 (cs12 p a (((0 : Nat) : Int)) ((t.at_ : Nat)) (pv) (av) (t.live) (t.err) (t.on) (t.ond)), refO B m c.W c.L, r11O a.C p.K p.th a.yc c, rP12 p a, rL12 p a, rH12 p a] w2 from (Sx.pick (show Sx R w0 [refO B m c.W c.L, r11O a.C p.K p.th a.yc c, Ass.blk y 83 (cs12 p a (((0 : Nat) : Int)) ((t.at_ : Nat)) (pv) (av) (t.live) (t.err) (t.on) (t.ond)), rP12 p a, rL12 p a, rH12 p a] w2 from by repeat (with_reducible first | exact HS.out | apply Sx.alloc | apply Sx.drewN | apply Sx.drew)) 2 (by simp)))
  have qy := hb.k22
  clear hb
  have g1 : decide (c.fin ≠ 0) = false := by simp [hfin]
  rw [g1]
  go_wp2_with fail
  go_ret
  exact ⟨rfl, (show Sx R w0 [refO B m c.W c.L, Ass.blk y 83 (cs12 p a (((0 : Nat) : Int)) ((t.at_ : Nat)) (pv) (av) (t.live) (t.err) (t.on) (t.ond)), rP12 p a, rL12 p a, rH12 p a, r11O a.C p.K p.th a.yc c] _ from (Sx.pick (Sx.pick (Sx.pick (Sx.pick (Sx.pick (Sx.pick (show Sx R w0 [refO B m c.W c.L, r11O a.C p.K p.th a.yc c, Ass.blk y 83 (cs12 p a (((0 : Nat) : Int)) ((t.at_ : Nat)) (pv) (av) (t.live) (t.err) (t.on) (t.ond)), rP12 p a, rL12 p a, rH12 p a] _ from by repeat (with_reducible first | exact HS.out | apply Sx.alloc | apply Sx.drewN | apply Sx.drew)) 1 (by simp)) 5 (by simp)) 5 (by simp)) 5 (by simp)) 5 (by simp)) 5 (by simp)))⟩
set_option maxHeartbeats 4000000 in
theorem r12_step0no (hp : P12OK p) (ha : t.at_ < p.path.length) (hn : t.cl.n < p.K) (hci : CInv p.K p.q t.c) (hco : COk a.C p.K p.q p.K) (hth : p.th ≤ 1000) (hL : t.L.length ≤ 1000000000) (hfin : (cNext p.K p.th p.q t.c).fin = 2) (hn2 : (cNext p.K p.th p.q t.c).n = 0) (h : (stars (refO B m t.W t.L :: [Ass.blk y 83 (cs12 p a (((0 : Nat) : Int)) ((t.at_ : Nat)) (pv) (av) (t.live) (t.err) (t.on) (t.ond)), rP12 p a, rL12 p a, rH12 p a, r11O a.C p.K p.th a.yc t.cl])).At R w) :
 Calls Tryz.prog 12 #[ptr y, ptr m] w fun e w' => e = .returned (.bool true) ∧ Tr (stars ((refO B m (cNext p.K p.th p.q t.c).W (cNext p.K p.th p.q t.c).L) :: [Ass.blk y 83 (cs12 p a (6) ((t.at_ : Nat)) (pv) (av) (t.live) (3) (0) (0)), rP12 p a, rL12 p a, rH12 p a, r11O a.C p.K p.th a.yc (cNext p.K p.th p.q t.c)])) R w w' := by
 obtain ⟨w0, hw0⟩ : ∃ v, v = w := ⟨_, rfl⟩
 rw [← hw0] at h ⊢
 have HS := hid (show Sx R w0 [refO B m t.W t.L, Ass.blk y 83 (cs12 p a (((0 : Nat) : Int)) ((t.at_ : Nat)) (pv) (av) (t.live) (t.err) (t.on) (t.ond)), rP12 p a, rL12 p a, rH12 p a, r11O a.C p.K p.th a.yc t.cl] w0 from Sx.start h)
 clear h hw0
 obtain ⟨c, hcn⟩ : ∃ c, c = cNext p.K p.th p.q t.c := ⟨_, rfl⟩
 rw [← hcn] at hfin hn2 ⊢
 have HCN := hid hcn
 clear hcn
 have hs8 := hp.s8
 have hp1 := hp.p1
 have hk1 := hp.k1
 obtain ⟨ae, hae⟩ : ∃ ae : Int, ae = (if t.cl.fin = 2 then 3 else 0) := ⟨_, rfl⟩
 have HAE := hid hae
 clear hae
 have htk0 := fun w' => ref_Ticket p.tt p.s p.g p.lm p.r p.K (some ⟨a.pb, 0, none⟩) p.P.length a.pc (some ⟨a.lb, 0, none⟩) p.LL.length a.lc (t.cl.n : Int) w' (by omega) (by omega) (by omega) (by omega) (by omega)
 rw [show (p.P.length : Int) * (6 + 2 * (p.s : Int)) + 2 * (t.cl.n : Int) = ((t.tk p : Nat) : Int) from by unfold S12.tk P12.q; push_cast; rfl] at htk0
 have HTK := hid htk0
 clear htk0
 go_enter Tryz.func12, Tryz.ntmps12
 go_upto_region 1 with fail
 apply wp_region_text (WI := fun S wx => Keep0 w0 wx) (by kernel_rfl) (by kernel_rfl)
 case hob =>
  iterate 8
   apply Oblig.cons
   case h =>
    intro S w1 hwi hSi hd hcl
    apply StepOk.intro
    intro K hK
    obtain ⟨_, ⟨hb, _⟩, _⟩ := Sx.get (Sx.pick (Sx.keep HS.out hwi) 1 (by simp))
    have qy := hb.k22
    clear hb
    obtain ⟨_, ⟨hcl, _⟩, _⟩ := Sx.get (Sx.pick (Sx.keep HS.out hwi) 5 (by simp))
    go_simp
    apply hK
    · rfl
    · conv => (lhs; whnf)
    · exact hwi
   simp only [put_lit, put_none]
   try dsimp only [List.set_cons_succ, List.set_cons_zero]
  apply Oblig.cons
  case h =>
   intro S w1 hwi hSi hd hcl
   apply StepOk.intro
   intro K hK
   obtain ⟨_, ⟨hb, _⟩, _⟩ := Sx.get (Sx.pick (Sx.keep HS.out hwi) 1 (by simp))
   have qy := hb.k22
   clear hb
   obtain ⟨_, ⟨hcl, _⟩, _⟩ := Sx.get (Sx.pick (Sx.keep HS.out hwi) 5 (by simp))
   go_simp
   refine (show Calls Tryz.prog 48 _ w1 (Ret (.agg #[i64 ae, i64 (t.cl.n : Int), .bool false, i64 0]) w1) from by have h := r11_Ans t.cl hcl; unfold clAns at h; rw [← HAE.out] at h; exact h).mono ?_
   rintro e w2 ⟨rfl, hk⟩
   apply hK
   · rfl
   · conv => (lhs; whnf)
   · exact Keep0.step hwi hk
  simp only [put_lit, put_none]
  try dsimp only [List.set_cons_succ, List.set_cons_zero]
  apply Oblig.cons
  case h =>
   intro S w1 hwi hSi hd hcl
   apply StepOk.intro
   intro K hK
   obtain ⟨_, ⟨hb, _⟩, _⟩ := Sx.get (Sx.pick (Sx.keep HS.out hwi) 1 (by simp))
   have qy := hb.k22
   clear hb
   obtain ⟨_, ⟨hcl, _⟩, _⟩ := Sx.get (Sx.pick (Sx.keep HS.out hwi) 5 (by simp))
   go_simp
   apply hK
   · rfl
   · conv => (lhs; whnf)
   · exact hwi
  simp only [put_lit, put_none]
  try dsimp only [List.set_cons_succ, List.set_cons_zero]
  apply Oblig.cons
  case h =>
   intro S w1 hwi hSi hd hcl
   apply StepOk.intro
   intro K hK
   go_simp
   refine (HTK.out _).mono ?_
   rintro e w2 ⟨rfl, hk⟩
   apply hK
   · rfl
   · conv => (lhs; whnf)
   · exact Keep0.step hwi hk
  simp only [put_lit, put_none]
  try dsimp only [List.set_cons_succ, List.set_cons_zero]
  apply Oblig.cons
  case h =>
   intro S w1 hwi hSi hd hcl
   apply StepOk.intro
   intro K hK
   obtain ⟨_, ⟨hb, _⟩, _⟩ := Sx.get (Sx.pick (Sx.keep HS.out hwi) 1 (by simp))
   have qy := hb.k22
   clear hb
   obtain ⟨_, ⟨hcl, _⟩, _⟩ := Sx.get (Sx.pick (Sx.keep HS.out hwi) 5 (by simp))
   go_simp
   apply hK
   · rfl
   · conv => (lhs; whnf)
   · exact hwi
  simp only [put_lit, put_none]
  try dsimp only [List.set_cons_succ, List.set_cons_zero]
  exact Oblig.nil
 case h0 =>
  exact (Keep.refl _ _).drew
 case hend =>
  intro S wx hwi hall
  have hkx := hwi
  obtain ⟨w1, hwn⟩ : ∃ v, v = wx := ⟨_, rfl⟩
  rw [← hwn] at hkx ⊢
  have hs := hid (show Sx R w0 [refO B m t.W t.L, Ass.blk y 83 (cs12 p a (((0 : Nat) : Int)) ((t.at_ : Nat)) (pv) (av) (t.live) (t.err) (t.on) (t.ond)), rP12 p a, rL12 p a, rH12 p a, r11O a.C p.K p.th a.yc t.cl] w1 from Sx.keep HS.out hkx)
  clear hwi hall hkx hwn HS
  have HS := hs
  clear hs
  obtain ⟨_, ⟨hb, _⟩, _⟩ := Sx.get (show Sx R w0 [Ass.blk y 83 (cs12 p a (((0 : Nat) : Int)) ((t.at_ : Nat)) (pv) (av) (t.live) (t.err) (t.on) (t.ond)), refO B m t.W t.L, rP12 p a, rL12 p a, rH12 p a, r11O a.C p.K p.th a.yc t.cl] w1 from (Sx.pick (show Sx R w0 [refO B m t.W t.L, Ass.blk y 83 (cs12 p a (((0 : Nat) : Int)) ((t.at_ : Nat)) (pv) (av) (t.live) (t.err) (t.on) (t.ond)), rP12 p a, rL12 p a, rH12 p a, r11O a.C p.K p.th a.yc t.cl] w1 from by repeat (with_reducible first | exact HS.out | apply Sx.alloc | apply Sx.drewN | apply Sx.drew)) 1 (by simp)))
  have qy := hb.k22
  clear hb
  go_wp2_with fail
  refine Calls.mono (Sx.call (q := Ass.star (refO B m c.W c.L) (r11O a.C p.K p.th a.yc c)) (Sx.pair (show Sx R w0 [refO B m t.W t.L, r11O a.C p.K p.th a.yc t.cl, Ass.blk y 83 (cs12 p a (((0 : Nat) : Int)) ((t.at_ : Nat)) (pv) (av) (t.live) (t.err) (t.on) (t.ond)), rP12 p a, rL12 p a, rH12 p a] _ from (Sx.pick (Sx.pick (show Sx R w0 [refO B m t.W t.L, Ass.blk y 83 (cs12 p a (((0 : Nat) : Int)) ((t.at_ : Nat)) (pv) (av) (t.live) (t.err) (t.on) (t.ond)), rP12 p a, rL12 p a, rH12 p a, r11O a.C p.K p.th a.yc t.cl] _ from by repeat (with_reducible first | exact HS.out | apply Sx.alloc | apply Sx.drewN | apply Sx.drew)) 5 (by simp)) 1 (by simp)))) (fun Rq hr hz => (show Calls Tryz.prog 49 _ _ (fun e w' => e = .returned (.bool (decide (c.fin ≠ 0))) ∧ Tr _ Rq _ w') from by rw [HCN.out]; exact r11O_Step (t := t.c) hr hci hco (by omega) hL))) ?_
  rintro e w2 ⟨rfl, hs⟩
  clear HS
  have HS := hid (show Sx R w0 [refO B m c.W c.L, r11O a.C p.K p.th a.yc c, Ass.blk y 83 (cs12 p a (((0 : Nat) : Int)) ((t.at_ : Nat)) (pv) (av) (t.live) (t.err) (t.on) (t.ond)), rP12 p a, rL12 p a, rH12 p a] w2 from Sx.part hs)
  clear hs
  clear qy
  obtain ⟨_, ⟨hb, _⟩, _⟩ := Sx.get (show Sx R w0 [Ass.blk y 83 (cs12 p a (((0 : Nat) : Int)) ((t.at_ : Nat)) (pv) (av) (t.live) (t.err) (t.on) (t.ond)), refO B m c.W c.L, r11O a.C p.K p.th a.yc c, rP12 p a, rL12 p a, rH12 p a] w2 from (Sx.pick (show Sx R w0 [refO B m c.W c.L, r11O a.C p.K p.th a.yc c, Ass.blk y 83 (cs12 p a (((0 : Nat) : Int)) ((t.at_ : Nat)) (pv) (av) (t.live) (t.err) (t.on) (t.ond)), rP12 p a, rL12 p a, rH12 p a] w2 from by repeat (with_reducible first | exact HS.out | apply Sx.alloc | apply Sx.drewN | apply Sx.drew)) 2 (by simp)))
  have qy := hb.k22
  clear hb
  have g1 : decide (c.fin ≠ 0) = true := by simp [hfin]
  rw [g1]
  clear g1
  go_wp2_with fail
  have hs := hid (show Sx R w0 [Ass.blk y 83 (cs12 p a (((0 : Nat) : Int)) ((t.at_ : Nat)) (pv) (av) (t.live) (t.err) (t.on) (t.ond)), rP12 p a, rL12 p a, rH12 p a, r11O a.C p.K p.th a.yc c, refO B m c.W c.L] w2 from (Sx.pick (Sx.pick (Sx.pick (Sx.pick (Sx.pick (show Sx R w0 [refO B m c.W c.L, r11O a.C p.K p.th a.yc c, Ass.blk y 83 (cs12 p a (((0 : Nat) : Int)) ((t.at_ : Nat)) (pv) (av) (t.live) (t.err) (t.on) (t.ond)), rP12 p a, rL12 p a, rH12 p a] w2 from by repeat (with_reducible first | exact HS.out | apply Sx.alloc | apply Sx.drewN | apply Sx.drew)) 1 (by simp)) 5 (by simp)) 5 (by simp)) 5 (by simp)) 5 (by simp)))
  clear HS
  have HS := hs
  clear hs
  refine Calls.mono (Sx.call (Sx.group [Ass.blk y 83 (cs12 p a (((0 : Nat) : Int)) ((t.at_ : Nat)) (pv) (av) (t.live) (t.err) (t.on) (t.ond)), rP12 p a, rL12 p a, rH12 p a, r11O a.C p.K p.th a.yc c] (l := [refO B m c.W c.L]) HS.out) (fun Rq hr _ => r12_claimed_no (t := { t with ph := 0, cl := c }) (pv := pv) (av := av) hfin hn2 hr)) ?_
  rintro e w3 ⟨rfl, hs⟩
  clear HS
  have HS := hid (show Sx R w0 [Ass.blk y 83 (cs12 p a (6) ((t.at_ : Nat)) (pv) (av) (t.live) (3) (0) (0)), rP12 p a, rL12 p a, rH12 p a, r11O a.C p.K p.th a.yc c, refO B m c.W c.L] w3 from Sx.ungroup _ hs)
  clear hs qy
  obtain ⟨_, ⟨hb, _⟩, _⟩ := Sx.get (show Sx R w0 [Ass.blk y 83 (cs12 p a (6) ((t.at_ : Nat)) (pv) (av) (t.live) (3) (0) (0)), rP12 p a, rL12 p a, rH12 p a, r11O a.C p.K p.th a.yc c, refO B m c.W c.L] w3 from (show Sx R w0 [Ass.blk y 83 (cs12 p a (6) ((t.at_ : Nat)) (pv) (av) (t.live) (3) (0) (0)), rP12 p a, rL12 p a, rH12 p a, r11O a.C p.K p.th a.yc c, refO B m c.W c.L] w3 from by repeat (with_reducible first | exact HS.out | apply Sx.alloc | apply Sx.drewN | apply Sx.drew)))
  have qy := hb.k22
  clear hb
  go_wp2_with fail
  go_ret
  exact ⟨rfl, (show Sx R w0 [refO B m c.W c.L, Ass.blk y 83 (cs12 p a (6) ((t.at_ : Nat)) (pv) (av) (t.live) (3) (0) (0)), rP12 p a, rL12 p a, rH12 p a, r11O a.C p.K p.th a.yc c] _ from (Sx.pick (Sx.pick (Sx.pick (Sx.pick (Sx.pick (Sx.pick (show Sx R w0 [Ass.blk y 83 (cs12 p a (6) ((t.at_ : Nat)) (pv) (av) (t.live) (3) (0) (0)), rP12 p a, rL12 p a, rH12 p a, r11O a.C p.K p.th a.yc c, refO B m c.W c.L] _ from by repeat (with_reducible first | exact HS.out | apply Sx.alloc | apply Sx.drewN | apply Sx.drew)) 4 (by simp)) 4 (by simp)) 4 (by simp)) 4 (by simp)) 4 (by simp)) 5 (by simp)))⟩
set_option maxHeartbeats 4000000 in
theorem r12_step0yes (hp : P12OK p) (ha : t.at_ < p.path.length) (hn : t.cl.n < p.K) (hci : CInv p.K p.q t.c) (hco : COk a.C p.K p.q p.K) (hth : p.th ≤ 1000) (hL : t.L.length ≤ 1000000000) (hfin : (cNext p.K p.th p.q t.c).fin = 1) (h : (stars (refO B m t.W t.L :: [Ass.blk y 83 (cs12 p a (((0 : Nat) : Int)) ((t.at_ : Nat)) (pv) (av) (t.live) (t.err) (t.on) (t.ond)), rP12 p a, rL12 p a, rH12 p a, r11O a.C p.K p.th a.yc t.cl])).At R w) :
 Calls Tryz.prog 12 #[ptr y, ptr m] w fun e w' => ∃ v : Value, e = .returned (.bool false) ∧ Tr (stars ((refO B m (cNext p.K p.th p.q t.c).W (cNext p.K p.th p.q t.c).L) :: (Ass.ex fun y' : Nat => (r8A p.s p.lm p.K (p.v (t.at_)) p.n p.u y' (po0)).with_ (v = ptr y')) :: [Ass.blk y 83 (cs12 p a (((1 : Nat) : Int)) ((t.at_ : Nat)) (v) (av) (t.live) (t.err) (t.on) (t.ond)), rP12 p a, rL12 p a, rH12 p a, r11O a.C p.K p.th a.yc (cNext p.K p.th p.q t.c)])) R w w' := by
 obtain ⟨w0, hw0⟩ : ∃ v, v = w := ⟨_, rfl⟩
 rw [← hw0] at h ⊢
 have HS := hid (show Sx R w0 [refO B m t.W t.L, Ass.blk y 83 (cs12 p a (((0 : Nat) : Int)) ((t.at_ : Nat)) (pv) (av) (t.live) (t.err) (t.on) (t.ond)), rP12 p a, rL12 p a, rH12 p a, r11O a.C p.K p.th a.yc t.cl] w0 from Sx.start h)
 clear h hw0
 obtain ⟨c, hcn⟩ : ∃ c, c = cNext p.K p.th p.q t.c := ⟨_, rfl⟩
 rw [← hcn] at hfin ⊢
 have HCN := hid hcn
 clear hcn
 have hs8 := hp.s8
 have hp1 := hp.p1
 have hk1 := hp.k1
 obtain ⟨ae, hae⟩ : ∃ ae : Int, ae = (if t.cl.fin = 2 then 3 else 0) := ⟨_, rfl⟩
 have HAE := hid hae
 clear hae
 have htk0 := fun w' => ref_Ticket p.tt p.s p.g p.lm p.r p.K (some ⟨a.pb, 0, none⟩) p.P.length a.pc (some ⟨a.lb, 0, none⟩) p.LL.length a.lc (t.cl.n : Int) w' (by omega) (by omega) (by omega) (by omega) (by omega)
 rw [show (p.P.length : Int) * (6 + 2 * (p.s : Int)) + 2 * (t.cl.n : Int) = ((t.tk p : Nat) : Int) from by unfold S12.tk P12.q; push_cast; rfl] at htk0
 have HTK := hid htk0
 clear htk0
 go_enter Tryz.func12, Tryz.ntmps12
 go_upto_region 1 with fail
 apply wp_region_text (WI := fun S wx => Keep0 w0 wx) (by kernel_rfl) (by kernel_rfl)
 case hob =>
  iterate 8
   apply Oblig.cons
   case h =>
    intro S w1 hwi hSi hd hcl
    apply StepOk.intro
    intro K hK
    obtain ⟨_, ⟨hb, _⟩, _⟩ := Sx.get (Sx.pick (Sx.keep HS.out hwi) 1 (by simp))
    have qy := hb.k22
    clear hb
    obtain ⟨_, ⟨hcl, _⟩, _⟩ := Sx.get (Sx.pick (Sx.keep HS.out hwi) 5 (by simp))
    go_simp
    apply hK
    · rfl
    · conv => (lhs; whnf)
    · exact hwi
   simp only [put_lit, put_none]
   try dsimp only [List.set_cons_succ, List.set_cons_zero]
  apply Oblig.cons
  case h =>
   intro S w1 hwi hSi hd hcl
   apply StepOk.intro
   intro K hK
   obtain ⟨_, ⟨hb, _⟩, _⟩ := Sx.get (Sx.pick (Sx.keep HS.out hwi) 1 (by simp))
   have qy := hb.k22
   clear hb
   obtain ⟨_, ⟨hcl, _⟩, _⟩ := Sx.get (Sx.pick (Sx.keep HS.out hwi) 5 (by simp))
   go_simp
   refine (show Calls Tryz.prog 48 _ w1 (Ret (.agg #[i64 ae, i64 (t.cl.n : Int), .bool false, i64 0]) w1) from by have h := r11_Ans t.cl hcl; unfold clAns at h; rw [← HAE.out] at h; exact h).mono ?_
   rintro e w2 ⟨rfl, hk⟩
   apply hK
   · rfl
   · conv => (lhs; whnf)
   · exact Keep0.step hwi hk
  simp only [put_lit, put_none]
  try dsimp only [List.set_cons_succ, List.set_cons_zero]
  apply Oblig.cons
  case h =>
   intro S w1 hwi hSi hd hcl
   apply StepOk.intro
   intro K hK
   obtain ⟨_, ⟨hb, _⟩, _⟩ := Sx.get (Sx.pick (Sx.keep HS.out hwi) 1 (by simp))
   have qy := hb.k22
   clear hb
   obtain ⟨_, ⟨hcl, _⟩, _⟩ := Sx.get (Sx.pick (Sx.keep HS.out hwi) 5 (by simp))
   go_simp
   apply hK
   · rfl
   · conv => (lhs; whnf)
   · exact hwi
  simp only [put_lit, put_none]
  try dsimp only [List.set_cons_succ, List.set_cons_zero]
  apply Oblig.cons
  case h =>
   intro S w1 hwi hSi hd hcl
   apply StepOk.intro
   intro K hK
   go_simp
   refine (HTK.out _).mono ?_
   rintro e w2 ⟨rfl, hk⟩
   apply hK
   · rfl
   · conv => (lhs; whnf)
   · exact Keep0.step hwi hk
  simp only [put_lit, put_none]
  try dsimp only [List.set_cons_succ, List.set_cons_zero]
  apply Oblig.cons
  case h =>
   intro S w1 hwi hSi hd hcl
   apply StepOk.intro
   intro K hK
   obtain ⟨_, ⟨hb, _⟩, _⟩ := Sx.get (Sx.pick (Sx.keep HS.out hwi) 1 (by simp))
   have qy := hb.k22
   clear hb
   obtain ⟨_, ⟨hcl, _⟩, _⟩ := Sx.get (Sx.pick (Sx.keep HS.out hwi) 5 (by simp))
   go_simp
   apply hK
   · rfl
   · conv => (lhs; whnf)
   · exact hwi
  simp only [put_lit, put_none]
  try dsimp only [List.set_cons_succ, List.set_cons_zero]
  exact Oblig.nil
 case h0 =>
  exact (Keep.refl _ _).drew
 case hend =>
  intro S wx hwi hall
  have hkx := hwi
  obtain ⟨w1, hwn⟩ : ∃ v, v = wx := ⟨_, rfl⟩
  rw [← hwn] at hkx ⊢
  have hs := hid (show Sx R w0 [refO B m t.W t.L, Ass.blk y 83 (cs12 p a (((0 : Nat) : Int)) ((t.at_ : Nat)) (pv) (av) (t.live) (t.err) (t.on) (t.ond)), rP12 p a, rL12 p a, rH12 p a, r11O a.C p.K p.th a.yc t.cl] w1 from Sx.keep HS.out hkx)
  clear hwi hall hkx hwn HS
  have HS := hs
  clear hs
  obtain ⟨_, ⟨hb, _⟩, _⟩ := Sx.get (show Sx R w0 [Ass.blk y 83 (cs12 p a (((0 : Nat) : Int)) ((t.at_ : Nat)) (pv) (av) (t.live) (t.err) (t.on) (t.ond)), refO B m t.W t.L, rP12 p a, rL12 p a, rH12 p a, r11O a.C p.K p.th a.yc t.cl] w1 from (Sx.pick (show Sx R w0 [refO B m t.W t.L, Ass.blk y 83 (cs12 p a (((0 : Nat) : Int)) ((t.at_ : Nat)) (pv) (av) (t.live) (t.err) (t.on) (t.ond)), rP12 p a, rL12 p a, rH12 p a, r11O a.C p.K p.th a.yc t.cl] w1 from by repeat (with_reducible first | exact HS.out | apply Sx.alloc | apply Sx.drewN | apply Sx.drew)) 1 (by simp)))
  have qy := hb.k22
  clear hb
  go_wp2_with fail
  refine Calls.mono (Sx.call (q := Ass.star (refO B m c.W c.L) (r11O a.C p.K p.th a.yc c)) (Sx.pair (show Sx R w0 [refO B m t.W t.L, r11O a.C p.K p.th a.yc t.cl, Ass.blk y 83 (cs12 p a (((0 : Nat) : Int)) ((t.at_ : Nat)) (pv) (av) (t.live) (t.err) (t.on) (t.ond)), rP12 p a, rL12 p a, rH12 p a] _ from (Sx.pick (Sx.pick (show Sx R w0 [refO B m t.W t.L, Ass.blk y 83 (cs12 p a (((0 : Nat) : Int)) ((t.at_ : Nat)) (pv) (av) (t.live) (t.err) (t.on) (t.ond)), rP12 p a, rL12 p a, rH12 p a, r11O a.C p.K p.th a.yc t.cl] _ from by repeat (with_reducible first | exact HS.out | apply Sx.alloc | apply Sx.drewN | apply Sx.drew)) 5 (by simp)) 1 (by simp)))) (fun Rq hr hz => (show Calls Tryz.prog 49 _ _ (fun e w' => e = .returned (.bool (decide (c.fin ≠ 0))) ∧ Tr _ Rq _ w') from by rw [HCN.out]; exact r11O_Step (t := t.c) hr hci hco (by omega) hL))) ?_
  rintro e w2 ⟨rfl, hs⟩
  clear HS
  have HS := hid (show Sx R w0 [refO B m c.W c.L, r11O a.C p.K p.th a.yc c, Ass.blk y 83 (cs12 p a (((0 : Nat) : Int)) ((t.at_ : Nat)) (pv) (av) (t.live) (t.err) (t.on) (t.ond)), rP12 p a, rL12 p a, rH12 p a] w2 from Sx.part hs)
  clear hs
  clear qy
  obtain ⟨_, ⟨hb, _⟩, _⟩ := Sx.get (show Sx R w0 [Ass.blk y 83 (cs12 p a (((0 : Nat) : Int)) ((t.at_ : Nat)) (pv) (av) (t.live) (t.err) (t.on) (t.ond)), refO B m c.W c.L, r11O a.C p.K p.th a.yc c, rP12 p a, rL12 p a, rH12 p a] w2 from (Sx.pick (show Sx R w0 [refO B m c.W c.L, r11O a.C p.K p.th a.yc c, Ass.blk y 83 (cs12 p a (((0 : Nat) : Int)) ((t.at_ : Nat)) (pv) (av) (t.live) (t.err) (t.on) (t.ond)), rP12 p a, rL12 p a, rH12 p a] w2 from by repeat (with_reducible first | exact HS.out | apply Sx.alloc | apply Sx.drewN | apply Sx.drew)) 2 (by simp)))
  have qy := hb.k22
  clear hb
  have g1 : decide (c.fin ≠ 0) = true := by simp [hfin]
  rw [g1]
  clear g1
  go_wp2_with fail
  have hs := hid (show Sx R w0 [Ass.blk y 83 (cs12 p a (((0 : Nat) : Int)) ((t.at_ : Nat)) (pv) (av) (t.live) (t.err) (t.on) (t.ond)), rP12 p a, rL12 p a, rH12 p a, r11O a.C p.K p.th a.yc c, refO B m c.W c.L] w2 from (Sx.pick (Sx.pick (Sx.pick (Sx.pick (Sx.pick (show Sx R w0 [refO B m c.W c.L, r11O a.C p.K p.th a.yc c, Ass.blk y 83 (cs12 p a (((0 : Nat) : Int)) ((t.at_ : Nat)) (pv) (av) (t.live) (t.err) (t.on) (t.ond)), rP12 p a, rL12 p a, rH12 p a] w2 from by repeat (with_reducible first | exact HS.out | apply Sx.alloc | apply Sx.drewN | apply Sx.drew)) 1 (by simp)) 5 (by simp)) 5 (by simp)) 5 (by simp)) 5 (by simp)))
  clear HS
  have HS := hs
  clear hs
  refine Calls.mono (Sx.callx (Sx.group [Ass.blk y 83 (cs12 p a (((0 : Nat) : Int)) ((t.at_ : Nat)) (pv) (av) (t.live) (t.err) (t.on) (t.ond)), rP12 p a, rL12 p a, rH12 p a, r11O a.C p.K p.th a.yc c] (l := [refO B m c.W c.L]) HS.out) (fun Rq hr _ => r12_claimed_yes (t := { t with ph := 0, cl := c }) (pv := pv) (av := av) hp ha hfin hr)) ?_
  rintro e w3 ⟨v, rfl, hs⟩
  clear HS
  have HS := hid (show Sx R w0 [(Ass.ex fun y' : Nat => (r8A p.s p.lm p.K (p.v (t.at_)) p.n p.u y' (po0)).with_ (v = ptr y')), Ass.blk y 83 (cs12 p a (((1 : Nat) : Int)) ((t.at_ : Nat)) (v) (av) (t.live) (t.err) (t.on) (t.ond)), rP12 p a, rL12 p a, rH12 p a, r11O a.C p.K p.th a.yc c, refO B m c.W c.L] w3 from Sx.ungroup _ hs)
  clear hs qy
  obtain ⟨_, ⟨hb, _⟩, _⟩ := Sx.get (show Sx R w0 [Ass.blk y 83 (cs12 p a (((1 : Nat) : Int)) ((t.at_ : Nat)) (v) (av) (t.live) (t.err) (t.on) (t.ond)), (Ass.ex fun y' : Nat => (r8A p.s p.lm p.K (p.v (t.at_)) p.n p.u y' (po0)).with_ (v = ptr y')), rP12 p a, rL12 p a, rH12 p a, r11O a.C p.K p.th a.yc c, refO B m c.W c.L] w3 from (Sx.pick (show Sx R w0 [(Ass.ex fun y' : Nat => (r8A p.s p.lm p.K (p.v (t.at_)) p.n p.u y' (po0)).with_ (v = ptr y')), Ass.blk y 83 (cs12 p a (((1 : Nat) : Int)) ((t.at_ : Nat)) (v) (av) (t.live) (t.err) (t.on) (t.ond)), rP12 p a, rL12 p a, rH12 p a, r11O a.C p.K p.th a.yc c, refO B m c.W c.L] w3 from by repeat (with_reducible first | exact HS.out | apply Sx.alloc | apply Sx.drewN | apply Sx.drew)) 1 (by simp)))
  have qy := hb.k22
  clear hb
  go_wp2_with fail
  go_ret
  exact ⟨v, rfl, (show Sx R w0 [refO B m c.W c.L, (Ass.ex fun y' : Nat => (r8A p.s p.lm p.K (p.v (t.at_)) p.n p.u y' (po0)).with_ (v = ptr y')), Ass.blk y 83 (cs12 p a (((1 : Nat) : Int)) ((t.at_ : Nat)) (v) (av) (t.live) (t.err) (t.on) (t.ond)), rP12 p a, rL12 p a, rH12 p a, r11O a.C p.K p.th a.yc c] _ from (Sx.pick (Sx.pick (Sx.pick (Sx.pick (Sx.pick (Sx.pick (Sx.pick (show Sx R w0 [(Ass.ex fun y' : Nat => (r8A p.s p.lm p.K (p.v (t.at_)) p.n p.u y' (po0)).with_ (v = ptr y')), Ass.blk y 83 (cs12 p a (((1 : Nat) : Int)) ((t.at_ : Nat)) (v) (av) (t.live) (t.err) (t.on) (t.ond)), rP12 p a, rL12 p a, rH12 p a, r11O a.C p.K p.th a.yc c, refO B m c.W c.L] _ from by repeat (with_reducible first | exact HS.out | apply Sx.alloc | apply Sx.drewN | apply Sx.drew)) 5 (by simp)) 5 (by simp)) 5 (by simp)) 5 (by simp)) 5 (by simp)) 5 (by simp)) 6 (by simp)))⟩
set_option maxHeartbeats 4000000 in
theorem r12_step1go {yp : Nat} {X : Int} (hp : P12OK p) (ha : t.at_ < p.path.length) (hn : t.cl.n < p.K) (hpi : PInv (p.av (p.v t.at_)) (p.le (p.v t.at_) p.u) p.n p.lm X t.pl) (hX : X ≤ 4398046511104) (hW : t.W.length ≤ 1000000) (hL : t.L.length ≤ 1000000000) (h7 : ¬ (pNext (p.av (p.v t.at_)) (p.le (p.v t.at_) p.u) p.n p.lm t.pl).next = 7) (h : (stars (refO B m t.W t.L :: [Ass.blk y 83 (cs12 p a (((1 : Nat) : Int)) ((t.at_ : Nat)) (ptr yp) (av) (t.live) (t.err) (t.on) (t.ond)), rP12 p a, rL12 p a, rH12 p a, r11O a.C p.K p.th a.yc t.cl, r8A p.s p.lm p.K (p.v t.at_) p.n p.u yp t.po])).At R w) :
 Calls Tryz.prog 12 #[ptr y, ptr m] w fun e w' => e = .returned (.bool false) ∧ Tr (stars ((refO B m (pNext (p.av (p.v t.at_)) (p.le (p.v t.at_) p.u) p.n p.lm t.pl).W (pNext (p.av (p.v t.at_)) (p.le (p.v t.at_) p.u) p.n p.lm t.pl).L) :: r8A p.s p.lm p.K (p.v t.at_) p.n p.u yp (pNext (p.av (p.v t.at_)) (p.le (p.v t.at_) p.u) p.n p.lm t.pl) :: [Ass.blk y 83 (cs12 p a (((1 : Nat) : Int)) ((t.at_ : Nat)) (ptr yp) (av) (t.live) (t.err) (t.on) (t.ond)), rP12 p a, rL12 p a, rH12 p a, r11O a.C p.K p.th a.yc t.cl])) R w w' := by
 obtain ⟨w0, hw0⟩ : ∃ v, v = w := ⟨_, rfl⟩
 rw [← hw0] at h ⊢
 have HS := hid (show Sx R w0 [refO B m t.W t.L, Ass.blk y 83 (cs12 p a (((1 : Nat) : Int)) ((t.at_ : Nat)) (ptr yp) (av) (t.live) (t.err) (t.on) (t.ond)), rP12 p a, rL12 p a, rH12 p a, r11O a.C p.K p.th a.yc t.cl, r8A p.s p.lm p.K (p.v t.at_) p.n p.u yp t.po] w0 from Sx.start h)
 clear h hw0
 obtain ⟨x, hx⟩ : ∃ x, x = pNext (p.av (p.v t.at_)) (p.le (p.v t.at_) p.u) p.n p.lm t.pl := ⟨_, rfl⟩
 rw [← hx] at h7 ⊢
 have HXN := hid hx
 clear hx
 have hva := hp.v1 ha
 have hua := hp.u1
 have hpl1 := hp.p1
 have hsq := hp.s8
 have hs8 := hp.s8
 have hp1 := hp.p1
 have hk1 := hp.k1
 obtain ⟨ae, hae⟩ : ∃ ae : Int, ae = (if t.cl.fin = 2 then 3 else 0) := ⟨_, rfl⟩
 have HAE := hid hae
 clear hae
 have htk0 := fun w' => ref_Ticket p.tt p.s p.g p.lm p.r p.K (some ⟨a.pb, 0, none⟩) p.P.length a.pc (some ⟨a.lb, 0, none⟩) p.LL.length a.lc (t.cl.n : Int) w' (by omega) (by omega) (by omega) (by omega) (by omega)
 rw [show (p.P.length : Int) * (6 + 2 * (p.s : Int)) + 2 * (t.cl.n : Int) = ((t.tk p : Nat) : Int) from by unfold S12.tk P12.q; push_cast; rfl] at htk0
 have HTK := hid htk0
 clear htk0
 go_enter Tryz.func12, Tryz.ntmps12
 go_upto_region 1 with fail
 apply wp_region_text (WI := fun S wx => Keep0 w0 wx) (by kernel_rfl) (by kernel_rfl)
 case hob =>
  iterate 8
   apply Oblig.cons
   case h =>
    intro S w1 hwi hSi hd hcl
    apply StepOk.intro
    intro K hK
    obtain ⟨_, ⟨hb, _⟩, _⟩ := Sx.get (Sx.pick (Sx.keep HS.out hwi) 1 (by simp))
    have qy := hb.k22
    clear hb
    obtain ⟨_, ⟨hcl, _⟩, _⟩ := Sx.get (Sx.pick (Sx.keep HS.out hwi) 5 (by simp))
    go_simp
    apply hK
    · rfl
    · conv => (lhs; whnf)
    · exact hwi
   simp only [put_lit, put_none]
   try dsimp only [List.set_cons_succ, List.set_cons_zero]
  apply Oblig.cons
  case h =>
   intro S w1 hwi hSi hd hcl
   apply StepOk.intro
   intro K hK
   obtain ⟨_, ⟨hb, _⟩, _⟩ := Sx.get (Sx.pick (Sx.keep HS.out hwi) 1 (by simp))
   have qy := hb.k22
   clear hb
   obtain ⟨_, ⟨hcl, _⟩, _⟩ := Sx.get (Sx.pick (Sx.keep HS.out hwi) 5 (by simp))
   go_simp
   refine (show Calls Tryz.prog 48 _ w1 (Ret (.agg #[i64 ae, i64 (t.cl.n : Int), .bool false, i64 0]) w1) from by have h := r11_Ans t.cl hcl; unfold clAns at h; rw [← HAE.out] at h; exact h).mono ?_
   rintro e w2 ⟨rfl, hk⟩
   apply hK
   · rfl
   · conv => (lhs; whnf)
   · exact Keep0.step hwi hk
  simp only [put_lit, put_none]
  try dsimp only [List.set_cons_succ, List.set_cons_zero]
  apply Oblig.cons
  case h =>
   intro S w1 hwi hSi hd hcl
   apply StepOk.intro
   intro K hK
   obtain ⟨_, ⟨hb, _⟩, _⟩ := Sx.get (Sx.pick (Sx.keep HS.out hwi) 1 (by simp))
   have qy := hb.k22
   clear hb
   obtain ⟨_, ⟨hcl, _⟩, _⟩ := Sx.get (Sx.pick (Sx.keep HS.out hwi) 5 (by simp))
   go_simp
   apply hK
   · rfl
   · conv => (lhs; whnf)
   · exact hwi
  simp only [put_lit, put_none]
  try dsimp only [List.set_cons_succ, List.set_cons_zero]
  apply Oblig.cons
  case h =>
   intro S w1 hwi hSi hd hcl
   apply StepOk.intro
   intro K hK
   go_simp
   refine (HTK.out _).mono ?_
   rintro e w2 ⟨rfl, hk⟩
   apply hK
   · rfl
   · conv => (lhs; whnf)
   · exact Keep0.step hwi hk
  simp only [put_lit, put_none]
  try dsimp only [List.set_cons_succ, List.set_cons_zero]
  apply Oblig.cons
  case h =>
   intro S w1 hwi hSi hd hcl
   apply StepOk.intro
   intro K hK
   obtain ⟨_, ⟨hb, _⟩, _⟩ := Sx.get (Sx.pick (Sx.keep HS.out hwi) 1 (by simp))
   have qy := hb.k22
   clear hb
   obtain ⟨_, ⟨hcl, _⟩, _⟩ := Sx.get (Sx.pick (Sx.keep HS.out hwi) 5 (by simp))
   go_simp
   apply hK
   · rfl
   · conv => (lhs; whnf)
   · exact hwi
  simp only [put_lit, put_none]
  try dsimp only [List.set_cons_succ, List.set_cons_zero]
  exact Oblig.nil
 case h0 =>
  exact (Keep.refl _ _).drew
 case hend =>
  intro S wx hwi hall
  have hkx := hwi
  obtain ⟨w1, hwn⟩ : ∃ v, v = wx := ⟨_, rfl⟩
  rw [← hwn] at hkx ⊢
  have hs := hid (show Sx R w0 [refO B m t.W t.L, Ass.blk y 83 (cs12 p a (((1 : Nat) : Int)) ((t.at_ : Nat)) (ptr yp) (av) (t.live) (t.err) (t.on) (t.ond)), rP12 p a, rL12 p a, rH12 p a, r11O a.C p.K p.th a.yc t.cl, r8A p.s p.lm p.K (p.v t.at_) p.n p.u yp t.po] w1 from Sx.keep HS.out hkx)
  clear hwi hall hkx hwn HS
  have HS := hs
  clear hs
  obtain ⟨_, ⟨hb, _⟩, _⟩ := Sx.get (show Sx R w0 [Ass.blk y 83 (cs12 p a (((1 : Nat) : Int)) ((t.at_ : Nat)) (ptr yp) (av) (t.live) (t.err) (t.on) (t.ond)), refO B m t.W t.L, rP12 p a, rL12 p a, rH12 p a, r11O a.C p.K p.th a.yc t.cl, r8A p.s p.lm p.K (p.v t.at_) p.n p.u yp t.po] w1 from (Sx.pick (show Sx R w0 [refO B m t.W t.L, Ass.blk y 83 (cs12 p a (((1 : Nat) : Int)) ((t.at_ : Nat)) (ptr yp) (av) (t.live) (t.err) (t.on) (t.ond)), rP12 p a, rL12 p a, rH12 p a, r11O a.C p.K p.th a.yc t.cl, r8A p.s p.lm p.K (p.v t.at_) p.n p.u yp t.po] w1 from by repeat (with_reducible first | exact HS.out | apply Sx.alloc | apply Sx.drewN | apply Sx.drew)) 1 (by simp)))
  have qy := hb.k22
  clear hb
  go_wp2_with fail
  refine Calls.mono (Sx.call (q := Ass.star (refO B m x.W x.L) (r8A p.s p.lm p.K (p.v t.at_) p.n p.u yp x)) (Sx.pair (show Sx R w0 [refO B m t.W t.L, r8A p.s p.lm p.K (p.v t.at_) p.n p.u yp t.po, Ass.blk y 83 (cs12 p a (((1 : Nat) : Int)) ((t.at_ : Nat)) (ptr yp) (av) (t.live) (t.err) (t.on) (t.ond)), rP12 p a, rL12 p a, rH12 p a, r11O a.C p.K p.th a.yc t.cl] _ from (Sx.pick (Sx.pick (show Sx R w0 [refO B m t.W t.L, Ass.blk y 83 (cs12 p a (((1 : Nat) : Int)) ((t.at_ : Nat)) (ptr yp) (av) (t.live) (t.err) (t.on) (t.ond)), rP12 p a, rL12 p a, rH12 p a, r11O a.C p.K p.th a.yc t.cl, r8A p.s p.lm p.K (p.v t.at_) p.n p.u yp t.po] _ from by repeat (with_reducible first | exact HS.out | apply Sx.alloc | apply Sx.drewN | apply Sx.drew)) 6 (by simp)) 1 (by simp)))) (fun Rq hr hz => (show Calls Tryz.prog 51 _ _ (fun e w' => e = .returned (.bool (decide (x.next = 7))) ∧ Tr _ Rq _ w') from by rw [HXN.out]; exact r8A_Step (x := t.pl) hr hpi hX hL hW (by omega) (by omega) (by omega) (by unfold P12.av; push_cast; rfl) (by unfold P12.le; push_cast; rfl)))) ?_
  rintro e w2 ⟨rfl, hs⟩
  clear HS
  have HS := hid (show Sx R w0 [refO B m x.W x.L, r8A p.s p.lm p.K (p.v t.at_) p.n p.u yp x, Ass.blk y 83 (cs12 p a (((1 : Nat) : Int)) ((t.at_ : Nat)) (ptr yp) (av) (t.live) (t.err) (t.on) (t.ond)), rP12 p a, rL12 p a, rH12 p a, r11O a.C p.K p.th a.yc t.cl] w2 from Sx.part hs)
  clear hs
  clear qy
  obtain ⟨_, ⟨hb, _⟩, _⟩ := Sx.get (show Sx R w0 [Ass.blk y 83 (cs12 p a (((1 : Nat) : Int)) ((t.at_ : Nat)) (ptr yp) (av) (t.live) (t.err) (t.on) (t.ond)), refO B m x.W x.L, r8A p.s p.lm p.K (p.v t.at_) p.n p.u yp x, rP12 p a, rL12 p a, rH12 p a, r11O a.C p.K p.th a.yc t.cl] w2 from (Sx.pick (show Sx R w0 [refO B m x.W x.L, r8A p.s p.lm p.K (p.v t.at_) p.n p.u yp x, Ass.blk y 83 (cs12 p a (((1 : Nat) : Int)) ((t.at_ : Nat)) (ptr yp) (av) (t.live) (t.err) (t.on) (t.ond)), rP12 p a, rL12 p a, rH12 p a, r11O a.C p.K p.th a.yc t.cl] w2 from by repeat (with_reducible first | exact HS.out | apply Sx.alloc | apply Sx.drewN | apply Sx.drew)) 2 (by simp)))
  have qy := hb.k22
  clear hb
  have g1 : decide (x.next = 7) = false := by simp [h7]
  rw [g1]
  go_wp2_with fail
  go_ret
  exact ⟨rfl, (show Sx R w0 [refO B m x.W x.L, r8A p.s p.lm p.K (p.v t.at_) p.n p.u yp x, Ass.blk y 83 (cs12 p a (((1 : Nat) : Int)) ((t.at_ : Nat)) (ptr yp) (av) (t.live) (t.err) (t.on) (t.ond)), rP12 p a, rL12 p a, rH12 p a, r11O a.C p.K p.th a.yc t.cl] _ from (Sx.pick (Sx.pick (Sx.pick (Sx.pick (Sx.pick (Sx.pick (Sx.pick (show Sx R w0 [refO B m x.W x.L, r8A p.s p.lm p.K (p.v t.at_) p.n p.u yp x, Ass.blk y 83 (cs12 p a (((1 : Nat) : Int)) ((t.at_ : Nat)) (ptr yp) (av) (t.live) (t.err) (t.on) (t.ond)), rP12 p a, rL12 p a, rH12 p a, r11O a.C p.K p.th a.yc t.cl] _ from by repeat (with_reducible first | exact HS.out | apply Sx.alloc | apply Sx.drewN | apply Sx.drew)) 6 (by simp)) 6 (by simp)) 6 (by simp)) 6 (by simp)) 6 (by simp)) 6 (by simp)) 6 (by simp)))⟩
set_option maxHeartbeats 4000000 in
theorem r12_step1bad {yp : Nat} {X : Int} (hp : P12OK p) (ha : t.at_ < p.path.length) (hn : t.cl.n < p.K) (hpi : PInv (p.av (p.v t.at_)) (p.le (p.v t.at_) p.u) p.n p.lm X t.pl) (hX : X ≤ 4398046511104) (hW : t.W.length ≤ 1000000) (hL : t.L.length ≤ 1000000000) (h7 : (pNext (p.av (p.v t.at_)) (p.le (p.v t.at_) p.u) p.n p.lm t.pl).next = 7) (hb : (pNext (p.av (p.v t.at_)) (p.le (p.v t.at_) p.u) p.n p.lm t.pl).bad = true) (h : (stars (refO B m t.W t.L :: [Ass.blk y 83 (cs12 p a (((1 : Nat) : Int)) ((t.at_ : Nat)) (ptr yp) (av) (t.live) (t.err) (t.on) (t.ond)), rP12 p a, rL12 p a, rH12 p a, r11O a.C p.K p.th a.yc t.cl, r8A p.s p.lm p.K (p.v t.at_) p.n p.u yp t.po])).At R w) :
 Calls Tryz.prog 12 #[ptr y, ptr m] w fun e w' => e = .returned (.bool false) ∧ Tr (stars ((refO B m (pNext (p.av (p.v t.at_)) (p.le (p.v t.at_) p.u) p.n p.lm t.pl).W (pNext (p.av (p.v t.at_)) (p.le (p.v t.at_) p.u) p.n p.lm t.pl).L) :: [Ass.blk y 83 (cs12 p a (((2 : Nat) : Int)) ((t.at_ : Nat)) (ptr yp) (av) (t.live) (4) (0) ((p.v t.at_ : Int))), rP12 p a, rL12 p a, rH12 p a, r11O a.C p.K p.th a.yc t.cl])) R w w' := by
 obtain ⟨w0, hw0⟩ : ∃ v, v = w := ⟨_, rfl⟩
 rw [← hw0] at h ⊢
 have HS := hid (show Sx R w0 [refO B m t.W t.L, Ass.blk y 83 (cs12 p a (((1 : Nat) : Int)) ((t.at_ : Nat)) (ptr yp) (av) (t.live) (t.err) (t.on) (t.ond)), rP12 p a, rL12 p a, rH12 p a, r11O a.C p.K p.th a.yc t.cl, r8A p.s p.lm p.K (p.v t.at_) p.n p.u yp t.po] w0 from Sx.start h)
 clear h hw0
 obtain ⟨x, hx⟩ : ∃ x, x = pNext (p.av (p.v t.at_)) (p.le (p.v t.at_) p.u) p.n p.lm t.pl := ⟨_, rfl⟩
 rw [← hx] at h7 hb ⊢
 have HXN := hid hx
 clear hx
 have hva := hp.v1 ha
 have hua := hp.u1
 have hpl1 := hp.p1
 have hsq := hp.s8
 have hs8 := hp.s8
 have hp1 := hp.p1
 have hk1 := hp.k1
 obtain ⟨ae, hae⟩ : ∃ ae : Int, ae = (if t.cl.fin = 2 then 3 else 0) := ⟨_, rfl⟩
 have HAE := hid hae
 clear hae
 have htk0 := fun w' => ref_Ticket p.tt p.s p.g p.lm p.r p.K (some ⟨a.pb, 0, none⟩) p.P.length a.pc (some ⟨a.lb, 0, none⟩) p.LL.length a.lc (t.cl.n : Int) w' (by omega) (by omega) (by omega) (by omega) (by omega)
 rw [show (p.P.length : Int) * (6 + 2 * (p.s : Int)) + 2 * (t.cl.n : Int) = ((t.tk p : Nat) : Int) from by unfold S12.tk P12.q; push_cast; rfl] at htk0
 have HTK := hid htk0
 clear htk0
 go_enter Tryz.func12, Tryz.ntmps12
 go_upto_region 1 with fail
 apply wp_region_text (WI := fun S wx => Keep0 w0 wx) (by kernel_rfl) (by kernel_rfl)
 case hob =>
  iterate 8
   apply Oblig.cons
   case h =>
    intro S w1 hwi hSi hd hcl
    apply StepOk.intro
    intro K hK
    obtain ⟨_, ⟨hb, _⟩, _⟩ := Sx.get (Sx.pick (Sx.keep HS.out hwi) 1 (by simp))
    have qy := hb.k22
    clear hb
    obtain ⟨_, ⟨hcl, _⟩, _⟩ := Sx.get (Sx.pick (Sx.keep HS.out hwi) 5 (by simp))
    go_simp
    apply hK
    · rfl
    · conv => (lhs; whnf)
    · exact hwi
   simp only [put_lit, put_none]
   try dsimp only [List.set_cons_succ, List.set_cons_zero]
  apply Oblig.cons
  case h =>
   intro S w1 hwi hSi hd hcl
   apply StepOk.intro
   intro K hK
   obtain ⟨_, ⟨hb, _⟩, _⟩ := Sx.get (Sx.pick (Sx.keep HS.out hwi) 1 (by simp))
   have qy := hb.k22
   clear hb
   obtain ⟨_, ⟨hcl, _⟩, _⟩ := Sx.get (Sx.pick (Sx.keep HS.out hwi) 5 (by simp))
   go_simp
   refine (show Calls Tryz.prog 48 _ w1 (Ret (.agg #[i64 ae, i64 (t.cl.n : Int), .bool false, i64 0]) w1) from by have h := r11_Ans t.cl hcl; unfold clAns at h; rw [← HAE.out] at h; exact h).mono ?_
   rintro e w2 ⟨rfl, hk⟩
   apply hK
   · rfl
   · conv => (lhs; whnf)
   · exact Keep0.step hwi hk
  simp only [put_lit, put_none]
  try dsimp only [List.set_cons_succ, List.set_cons_zero]
  apply Oblig.cons
  case h =>
   intro S w1 hwi hSi hd hcl
   apply StepOk.intro
   intro K hK
   obtain ⟨_, ⟨hb, _⟩, _⟩ := Sx.get (Sx.pick (Sx.keep HS.out hwi) 1 (by simp))
   have qy := hb.k22
   clear hb
   obtain ⟨_, ⟨hcl, _⟩, _⟩ := Sx.get (Sx.pick (Sx.keep HS.out hwi) 5 (by simp))
   go_simp
   apply hK
   · rfl
   · conv => (lhs; whnf)
   · exact hwi
  simp only [put_lit, put_none]
  try dsimp only [List.set_cons_succ, List.set_cons_zero]
  apply Oblig.cons
  case h =>
   intro S w1 hwi hSi hd hcl
   apply StepOk.intro
   intro K hK
   go_simp
   refine (HTK.out _).mono ?_
   rintro e w2 ⟨rfl, hk⟩
   apply hK
   · rfl
   · conv => (lhs; whnf)
   · exact Keep0.step hwi hk
  simp only [put_lit, put_none]
  try dsimp only [List.set_cons_succ, List.set_cons_zero]
  apply Oblig.cons
  case h =>
   intro S w1 hwi hSi hd hcl
   apply StepOk.intro
   intro K hK
   obtain ⟨_, ⟨hb, _⟩, _⟩ := Sx.get (Sx.pick (Sx.keep HS.out hwi) 1 (by simp))
   have qy := hb.k22
   clear hb
   obtain ⟨_, ⟨hcl, _⟩, _⟩ := Sx.get (Sx.pick (Sx.keep HS.out hwi) 5 (by simp))
   go_simp
   apply hK
   · rfl
   · conv => (lhs; whnf)
   · exact hwi
  simp only [put_lit, put_none]
  try dsimp only [List.set_cons_succ, List.set_cons_zero]
  exact Oblig.nil
 case h0 =>
  exact (Keep.refl _ _).drew
 case hend =>
  intro S wx hwi hall
  have hkx := hwi
  obtain ⟨w1, hwn⟩ : ∃ v, v = wx := ⟨_, rfl⟩
  rw [← hwn] at hkx ⊢
  have hs := hid (show Sx R w0 [refO B m t.W t.L, Ass.blk y 83 (cs12 p a (((1 : Nat) : Int)) ((t.at_ : Nat)) (ptr yp) (av) (t.live) (t.err) (t.on) (t.ond)), rP12 p a, rL12 p a, rH12 p a, r11O a.C p.K p.th a.yc t.cl, r8A p.s p.lm p.K (p.v t.at_) p.n p.u yp t.po] w1 from Sx.keep HS.out hkx)
  clear hwi hall hkx hwn HS
  have HS := hs
  clear hs
  obtain ⟨_, ⟨hb, _⟩, _⟩ := Sx.get (show Sx R w0 [Ass.blk y 83 (cs12 p a (((1 : Nat) : Int)) ((t.at_ : Nat)) (ptr yp) (av) (t.live) (t.err) (t.on) (t.ond)), refO B m t.W t.L, rP12 p a, rL12 p a, rH12 p a, r11O a.C p.K p.th a.yc t.cl, r8A p.s p.lm p.K (p.v t.at_) p.n p.u yp t.po] w1 from (Sx.pick (show Sx R w0 [refO B m t.W t.L, Ass.blk y 83 (cs12 p a (((1 : Nat) : Int)) ((t.at_ : Nat)) (ptr yp) (av) (t.live) (t.err) (t.on) (t.ond)), rP12 p a, rL12 p a, rH12 p a, r11O a.C p.K p.th a.yc t.cl, r8A p.s p.lm p.K (p.v t.at_) p.n p.u yp t.po] w1 from by repeat (with_reducible first | exact HS.out | apply Sx.alloc | apply Sx.drewN | apply Sx.drew)) 1 (by simp)))
  have qy := hb.k22
  clear hb
  go_wp2_with fail
  refine Calls.mono (Sx.call (q := Ass.star (refO B m x.W x.L) (r8A p.s p.lm p.K (p.v t.at_) p.n p.u yp x)) (Sx.pair (show Sx R w0 [refO B m t.W t.L, r8A p.s p.lm p.K (p.v t.at_) p.n p.u yp t.po, Ass.blk y 83 (cs12 p a (((1 : Nat) : Int)) ((t.at_ : Nat)) (ptr yp) (av) (t.live) (t.err) (t.on) (t.ond)), rP12 p a, rL12 p a, rH12 p a, r11O a.C p.K p.th a.yc t.cl] _ from (Sx.pick (Sx.pick (show Sx R w0 [refO B m t.W t.L, Ass.blk y 83 (cs12 p a (((1 : Nat) : Int)) ((t.at_ : Nat)) (ptr yp) (av) (t.live) (t.err) (t.on) (t.ond)), rP12 p a, rL12 p a, rH12 p a, r11O a.C p.K p.th a.yc t.cl, r8A p.s p.lm p.K (p.v t.at_) p.n p.u yp t.po] _ from by repeat (with_reducible first | exact HS.out | apply Sx.alloc | apply Sx.drewN | apply Sx.drew)) 6 (by simp)) 1 (by simp)))) (fun Rq hr hz => (show Calls Tryz.prog 51 _ _ (fun e w' => e = .returned (.bool (decide (x.next = 7))) ∧ Tr _ Rq _ w') from by rw [HXN.out]; exact r8A_Step (x := t.pl) hr hpi hX hL hW (by omega) (by omega) (by omega) (by unfold P12.av; push_cast; rfl) (by unfold P12.le; push_cast; rfl)))) ?_
  rintro e w2 ⟨rfl, hs⟩
  clear HS
  have HS := hid (show Sx R w0 [refO B m x.W x.L, r8A p.s p.lm p.K (p.v t.at_) p.n p.u yp x, Ass.blk y 83 (cs12 p a (((1 : Nat) : Int)) ((t.at_ : Nat)) (ptr yp) (av) (t.live) (t.err) (t.on) (t.ond)), rP12 p a, rL12 p a, rH12 p a, r11O a.C p.K p.th a.yc t.cl] w2 from Sx.part hs)
  clear hs
  clear qy
  obtain ⟨_, ⟨hb, _⟩, _⟩ := Sx.get (show Sx R w0 [Ass.blk y 83 (cs12 p a (((1 : Nat) : Int)) ((t.at_ : Nat)) (ptr yp) (av) (t.live) (t.err) (t.on) (t.ond)), refO B m x.W x.L, r8A p.s p.lm p.K (p.v t.at_) p.n p.u yp x, rP12 p a, rL12 p a, rH12 p a, r11O a.C p.K p.th a.yc t.cl] w2 from (Sx.pick (show Sx R w0 [refO B m x.W x.L, r8A p.s p.lm p.K (p.v t.at_) p.n p.u yp x, Ass.blk y 83 (cs12 p a (((1 : Nat) : Int)) ((t.at_ : Nat)) (ptr yp) (av) (t.live) (t.err) (t.on) (t.ond)), rP12 p a, rL12 p a, rH12 p a, r11O a.C p.K p.th a.yc t.cl] w2 from by repeat (with_reducible first | exact HS.out | apply Sx.alloc | apply Sx.drewN | apply Sx.drew)) 2 (by simp)))
  have qy := hb.k22
  clear hb
  have g1 : decide (x.next = 7) = true := by simp [h7]
  rw [g1]
  clear g1
  go_wp2_with fail
  have hs := hid (show Sx R w0 [r8A p.s p.lm p.K (p.v t.at_) p.n p.u yp x, Ass.blk y 83 (cs12 p a (((1 : Nat) : Int)) ((t.at_ : Nat)) (ptr yp) (av) (t.live) (t.err) (t.on) (t.ond)), rP12 p a, rL12 p a, rH12 p a, r11O a.C p.K p.th a.yc t.cl, refO B m x.W x.L] w2 from (Sx.pick (Sx.pick (Sx.pick (Sx.pick (Sx.pick (Sx.pick (show Sx R w0 [refO B m x.W x.L, r8A p.s p.lm p.K (p.v t.at_) p.n p.u yp x, Ass.blk y 83 (cs12 p a (((1 : Nat) : Int)) ((t.at_ : Nat)) (ptr yp) (av) (t.live) (t.err) (t.on) (t.ond)), rP12 p a, rL12 p a, rH12 p a, r11O a.C p.K p.th a.yc t.cl] w2 from by repeat (with_reducible first | exact HS.out | apply Sx.alloc | apply Sx.drewN | apply Sx.drew)) 6 (by simp)) 6 (by simp)) 6 (by simp)) 6 (by simp)) 6 (by simp)) 6 (by simp)))
  clear HS
  have HS := hs
  clear hs
  refine Calls.mono (Sx.call (Sx.group [r8A p.s p.lm p.K (p.v t.at_) p.n p.u yp x, Ass.blk y 83 (cs12 p a (((1 : Nat) : Int)) ((t.at_ : Nat)) (ptr yp) (av) (t.live) (t.err) (t.on) (t.ond)), rP12 p a, rL12 p a, rH12 p a, r11O a.C p.K p.th a.yc t.cl] (l := [refO B m x.W x.L]) HS.out) (fun Rq hr _ => r12_pooled_bad (t := { t with ph := 1, po := x }) (av := av) hb hr)) ?_
  rintro e w3 ⟨rfl, hs⟩
  clear HS
  have HS := hid (show Sx R w0 [r8A p.s p.lm p.K (p.v t.at_) p.n p.u yp x, Ass.blk y 83 (cs12 p a (((2 : Nat) : Int)) ((t.at_ : Nat)) (ptr yp) (av) (t.live) (4) (0) ((p.v t.at_ : Int))), rP12 p a, rL12 p a, rH12 p a, r11O a.C p.K p.th a.yc t.cl, refO B m x.W x.L] w3 from Sx.ungroup _ hs)
  clear hs qy
  obtain ⟨_, ⟨hb, _⟩, _⟩ := Sx.get (show Sx R w0 [Ass.blk y 83 (cs12 p a (((2 : Nat) : Int)) ((t.at_ : Nat)) (ptr yp) (av) (t.live) (4) (0) ((p.v t.at_ : Int))), r8A p.s p.lm p.K (p.v t.at_) p.n p.u yp x, rP12 p a, rL12 p a, rH12 p a, r11O a.C p.K p.th a.yc t.cl, refO B m x.W x.L] w3 from (Sx.pick (show Sx R w0 [r8A p.s p.lm p.K (p.v t.at_) p.n p.u yp x, Ass.blk y 83 (cs12 p a (((2 : Nat) : Int)) ((t.at_ : Nat)) (ptr yp) (av) (t.live) (4) (0) ((p.v t.at_ : Int))), rP12 p a, rL12 p a, rH12 p a, r11O a.C p.K p.th a.yc t.cl, refO B m x.W x.L] w3 from by repeat (with_reducible first | exact HS.out | apply Sx.alloc | apply Sx.drewN | apply Sx.drew)) 1 (by simp)))
  have qy := hb.k22
  clear hb
  go_wp2_with fail
  go_ret
  exact ⟨rfl, Sx.drop (show Sx R w0 [r8A p.s p.lm p.K (p.v t.at_) p.n p.u yp x, refO B m x.W x.L, Ass.blk y 83 (cs12 p a (((2 : Nat) : Int)) ((t.at_ : Nat)) (ptr yp) (av) (t.live) (4) (0) ((p.v t.at_ : Int))), rP12 p a, rL12 p a, rH12 p a, r11O a.C p.K p.th a.yc t.cl] _ from (Sx.pick (Sx.pick (Sx.pick (Sx.pick (Sx.pick (Sx.pick (Sx.pick (show Sx R w0 [r8A p.s p.lm p.K (p.v t.at_) p.n p.u yp x, Ass.blk y 83 (cs12 p a (((2 : Nat) : Int)) ((t.at_ : Nat)) (ptr yp) (av) (t.live) (4) (0) ((p.v t.at_ : Int))), rP12 p a, rL12 p a, rH12 p a, r11O a.C p.K p.th a.yc t.cl, refO B m x.W x.L] _ from by repeat (with_reducible first | exact HS.out | apply Sx.alloc | apply Sx.drewN | apply Sx.drew)) 5 (by simp)) 5 (by simp)) 5 (by simp)) 5 (by simp)) 5 (by simp)) 6 (by simp)) 6 (by simp)))⟩
set_option maxHeartbeats 4000000 in
theorem r12_step1last {yp : Nat} {X : Int} (hp : P12OK p) (ha : t.at_ < p.path.length) (hn : t.cl.n < p.K) (hpi : PInv (p.av (p.v t.at_)) (p.le (p.v t.at_) p.u) p.n p.lm X t.pl) (hX : X ≤ 4398046511104) (hW : t.W.length ≤ 1000000) (hL : t.L.length ≤ 1000000000) (h7 : (pNext (p.av (p.v t.at_)) (p.le (p.v t.at_) p.u) p.n p.lm t.pl).next = 7) (hb : (pNext (p.av (p.v t.at_)) (p.le (p.v t.at_) p.u) p.n p.lm t.pl).bad = false) (hl : t.at_ + 1 = p.path.length) (h : (stars (refO B m t.W t.L :: [Ass.blk y 83 (cs12 p a (((1 : Nat) : Int)) ((t.at_ : Nat)) (ptr yp) (av) (t.live) (t.err) (t.on) (t.ond)), rP12 p a, rL12 p a, rH12 p a, r11O a.C p.K p.th a.yc t.cl, r8A p.s p.lm p.K (p.v t.at_) p.n p.u yp t.po])).At R w) :
 Calls Tryz.prog 12 #[ptr y, ptr m] w fun e w' => e = .returned (.bool false) ∧ Tr (stars ((refO B m (pNext (p.av (p.v t.at_)) (p.le (p.v t.at_) p.u) p.n p.lm t.pl).W (pNext (p.av (p.v t.at_)) (p.le (p.v t.at_) p.u) p.n p.lm t.pl).L) :: [Ass.blk y 83 (cs12 p a (((3 : Nat) : Int)) (((t.at_ + 1 : Nat) : Int)) (ptr yp) (av) (t.live) (t.err) (t.on) (t.ond)), rP12 p a, rL12 p a, rH12 p a, r11O a.C p.K p.th a.yc t.cl])) R w w' := by
 obtain ⟨w0, hw0⟩ : ∃ v, v = w := ⟨_, rfl⟩
 rw [← hw0] at h ⊢
 have HS := hid (show Sx R w0 [refO B m t.W t.L, Ass.blk y 83 (cs12 p a (((1 : Nat) : Int)) ((t.at_ : Nat)) (ptr yp) (av) (t.live) (t.err) (t.on) (t.ond)), rP12 p a, rL12 p a, rH12 p a, r11O a.C p.K p.th a.yc t.cl, r8A p.s p.lm p.K (p.v t.at_) p.n p.u yp t.po] w0 from Sx.start h)
 clear h hw0
 obtain ⟨x, hx⟩ : ∃ x, x = pNext (p.av (p.v t.at_)) (p.le (p.v t.at_) p.u) p.n p.lm t.pl := ⟨_, rfl⟩
 rw [← hx] at h7 hb ⊢
 have HXN := hid hx
 clear hx
 have hva := hp.v1 ha
 have hua := hp.u1
 have hpl1 := hp.p1
 have hsq := hp.s8
 have hs8 := hp.s8
 have hp1 := hp.p1
 have hk1 := hp.k1
 obtain ⟨ae, hae⟩ : ∃ ae : Int, ae = (if t.cl.fin = 2 then 3 else 0) := ⟨_, rfl⟩
 have HAE := hid hae
 clear hae
 have htk0 := fun w' => ref_Ticket p.tt p.s p.g p.lm p.r p.K (some ⟨a.pb, 0, none⟩) p.P.length a.pc (some ⟨a.lb, 0, none⟩) p.LL.length a.lc (t.cl.n : Int) w' (by omega) (by omega) (by omega) (by omega) (by omega)
 rw [show (p.P.length : Int) * (6 + 2 * (p.s : Int)) + 2 * (t.cl.n : Int) = ((t.tk p : Nat) : Int) from by unfold S12.tk P12.q; push_cast; rfl] at htk0
 have HTK := hid htk0
 clear htk0
 go_enter Tryz.func12, Tryz.ntmps12
 go_upto_region 1 with fail
 apply wp_region_text (WI := fun S wx => Keep0 w0 wx) (by kernel_rfl) (by kernel_rfl)
 case hob =>
  iterate 8
   apply Oblig.cons
   case h =>
    intro S w1 hwi hSi hd hcl
    apply StepOk.intro
    intro K hK
    obtain ⟨_, ⟨hb, _⟩, _⟩ := Sx.get (Sx.pick (Sx.keep HS.out hwi) 1 (by simp))
    have qy := hb.k22
    clear hb
    obtain ⟨_, ⟨hcl, _⟩, _⟩ := Sx.get (Sx.pick (Sx.keep HS.out hwi) 5 (by simp))
    go_simp
    apply hK
    · rfl
    · conv => (lhs; whnf)
    · exact hwi
   simp only [put_lit, put_none]
   try dsimp only [List.set_cons_succ, List.set_cons_zero]
  apply Oblig.cons
  case h =>
   intro S w1 hwi hSi hd hcl
   apply StepOk.intro
   intro K hK
   obtain ⟨_, ⟨hb, _⟩, _⟩ := Sx.get (Sx.pick (Sx.keep HS.out hwi) 1 (by simp))
   have qy := hb.k22
   clear hb
   obtain ⟨_, ⟨hcl, _⟩, _⟩ := Sx.get (Sx.pick (Sx.keep HS.out hwi) 5 (by simp))
   go_simp
   refine (show Calls Tryz.prog 48 _ w1 (Ret (.agg #[i64 ae, i64 (t.cl.n : Int), .bool false, i64 0]) w1) from by have h := r11_Ans t.cl hcl; unfold clAns at h; rw [← HAE.out] at h; exact h).mono ?_
   rintro e w2 ⟨rfl, hk⟩
   apply hK
   · rfl
   · conv => (lhs; whnf)
   · exact Keep0.step hwi hk
  simp only [put_lit, put_none]
  try dsimp only [List.set_cons_succ, List.set_cons_zero]
  apply Oblig.cons
  case h =>
   intro S w1 hwi hSi hd hcl
   apply StepOk.intro
   intro K hK
   obtain ⟨_, ⟨hb, _⟩, _⟩ := Sx.get (Sx.pick (Sx.keep HS.out hwi) 1 (by simp))
   have qy := hb.k22
   clear hb
   obtain ⟨_, ⟨hcl, _⟩, _⟩ := Sx.get (Sx.pick (Sx.keep HS.out hwi) 5 (by simp))
   go_simp
   apply hK
   · rfl
   · conv => (lhs; whnf)
   · exact hwi
  simp only [put_lit, put_none]
  try dsimp only [List.set_cons_succ, List.set_cons_zero]
  apply Oblig.cons
  case h =>
   intro S w1 hwi hSi hd hcl
   apply StepOk.intro
   intro K hK
   go_simp
   refine (HTK.out _).mono ?_
   rintro e w2 ⟨rfl, hk⟩
   apply hK
   · rfl
   · conv => (lhs; whnf)
   · exact Keep0.step hwi hk
  simp only [put_lit, put_none]
  try dsimp only [List.set_cons_succ, List.set_cons_zero]
  apply Oblig.cons
  case h =>
   intro S w1 hwi hSi hd hcl
   apply StepOk.intro
   intro K hK
   obtain ⟨_, ⟨hb, _⟩, _⟩ := Sx.get (Sx.pick (Sx.keep HS.out hwi) 1 (by simp))
   have qy := hb.k22
   clear hb
   obtain ⟨_, ⟨hcl, _⟩, _⟩ := Sx.get (Sx.pick (Sx.keep HS.out hwi) 5 (by simp))
   go_simp
   apply hK
   · rfl
   · conv => (lhs; whnf)
   · exact hwi
  simp only [put_lit, put_none]
  try dsimp only [List.set_cons_succ, List.set_cons_zero]
  exact Oblig.nil
 case h0 =>
  exact (Keep.refl _ _).drew
 case hend =>
  intro S wx hwi hall
  have hkx := hwi
  obtain ⟨w1, hwn⟩ : ∃ v, v = wx := ⟨_, rfl⟩
  rw [← hwn] at hkx ⊢
  have hs := hid (show Sx R w0 [refO B m t.W t.L, Ass.blk y 83 (cs12 p a (((1 : Nat) : Int)) ((t.at_ : Nat)) (ptr yp) (av) (t.live) (t.err) (t.on) (t.ond)), rP12 p a, rL12 p a, rH12 p a, r11O a.C p.K p.th a.yc t.cl, r8A p.s p.lm p.K (p.v t.at_) p.n p.u yp t.po] w1 from Sx.keep HS.out hkx)
  clear hwi hall hkx hwn HS
  have HS := hs
  clear hs
  obtain ⟨_, ⟨hb, _⟩, _⟩ := Sx.get (show Sx R w0 [Ass.blk y 83 (cs12 p a (((1 : Nat) : Int)) ((t.at_ : Nat)) (ptr yp) (av) (t.live) (t.err) (t.on) (t.ond)), refO B m t.W t.L, rP12 p a, rL12 p a, rH12 p a, r11O a.C p.K p.th a.yc t.cl, r8A p.s p.lm p.K (p.v t.at_) p.n p.u yp t.po] w1 from (Sx.pick (show Sx R w0 [refO B m t.W t.L, Ass.blk y 83 (cs12 p a (((1 : Nat) : Int)) ((t.at_ : Nat)) (ptr yp) (av) (t.live) (t.err) (t.on) (t.ond)), rP12 p a, rL12 p a, rH12 p a, r11O a.C p.K p.th a.yc t.cl, r8A p.s p.lm p.K (p.v t.at_) p.n p.u yp t.po] w1 from by repeat (with_reducible first | exact HS.out | apply Sx.alloc | apply Sx.drewN | apply Sx.drew)) 1 (by simp)))
  have qy := hb.k22
  clear hb
  go_wp2_with fail
  refine Calls.mono (Sx.call (q := Ass.star (refO B m x.W x.L) (r8A p.s p.lm p.K (p.v t.at_) p.n p.u yp x)) (Sx.pair (show Sx R w0 [refO B m t.W t.L, r8A p.s p.lm p.K (p.v t.at_) p.n p.u yp t.po, Ass.blk y 83 (cs12 p a (((1 : Nat) : Int)) ((t.at_ : Nat)) (ptr yp) (av) (t.live) (t.err) (t.on) (t.ond)), rP12 p a, rL12 p a, rH12 p a, r11O a.C p.K p.th a.yc t.cl] _ from (Sx.pick (Sx.pick (show Sx R w0 [refO B m t.W t.L, Ass.blk y 83 (cs12 p a (((1 : Nat) : Int)) ((t.at_ : Nat)) (ptr yp) (av) (t.live) (t.err) (t.on) (t.ond)), rP12 p a, rL12 p a, rH12 p a, r11O a.C p.K p.th a.yc t.cl, r8A p.s p.lm p.K (p.v t.at_) p.n p.u yp t.po] _ from by repeat (with_reducible first | exact HS.out | apply Sx.alloc | apply Sx.drewN | apply Sx.drew)) 6 (by simp)) 1 (by simp)))) (fun Rq hr hz => (show Calls Tryz.prog 51 _ _ (fun e w' => e = .returned (.bool (decide (x.next = 7))) ∧ Tr _ Rq _ w') from by rw [HXN.out]; exact r8A_Step (x := t.pl) hr hpi hX hL hW (by omega) (by omega) (by omega) (by unfold P12.av; push_cast; rfl) (by unfold P12.le; push_cast; rfl)))) ?_
  rintro e w2 ⟨rfl, hs⟩
  clear HS
  have HS := hid (show Sx R w0 [refO B m x.W x.L, r8A p.s p.lm p.K (p.v t.at_) p.n p.u yp x, Ass.blk y 83 (cs12 p a (((1 : Nat) : Int)) ((t.at_ : Nat)) (ptr yp) (av) (t.live) (t.err) (t.on) (t.ond)), rP12 p a, rL12 p a, rH12 p a, r11O a.C p.K p.th a.yc t.cl] w2 from Sx.part hs)
  clear hs
  clear qy
  obtain ⟨_, ⟨hb, _⟩, _⟩ := Sx.get (show Sx R w0 [Ass.blk y 83 (cs12 p a (((1 : Nat) : Int)) ((t.at_ : Nat)) (ptr yp) (av) (t.live) (t.err) (t.on) (t.ond)), refO B m x.W x.L, r8A p.s p.lm p.K (p.v t.at_) p.n p.u yp x, rP12 p a, rL12 p a, rH12 p a, r11O a.C p.K p.th a.yc t.cl] w2 from (Sx.pick (show Sx R w0 [refO B m x.W x.L, r8A p.s p.lm p.K (p.v t.at_) p.n p.u yp x, Ass.blk y 83 (cs12 p a (((1 : Nat) : Int)) ((t.at_ : Nat)) (ptr yp) (av) (t.live) (t.err) (t.on) (t.ond)), rP12 p a, rL12 p a, rH12 p a, r11O a.C p.K p.th a.yc t.cl] w2 from by repeat (with_reducible first | exact HS.out | apply Sx.alloc | apply Sx.drewN | apply Sx.drew)) 2 (by simp)))
  have qy := hb.k22
  clear hb
  have g1 : decide (x.next = 7) = true := by simp [h7]
  rw [g1]
  clear g1
  go_wp2_with fail
  have hs := hid (show Sx R w0 [r8A p.s p.lm p.K (p.v t.at_) p.n p.u yp x, Ass.blk y 83 (cs12 p a (((1 : Nat) : Int)) ((t.at_ : Nat)) (ptr yp) (av) (t.live) (t.err) (t.on) (t.ond)), rP12 p a, rL12 p a, rH12 p a, r11O a.C p.K p.th a.yc t.cl, refO B m x.W x.L] w2 from (Sx.pick (Sx.pick (Sx.pick (Sx.pick (Sx.pick (Sx.pick (show Sx R w0 [refO B m x.W x.L, r8A p.s p.lm p.K (p.v t.at_) p.n p.u yp x, Ass.blk y 83 (cs12 p a (((1 : Nat) : Int)) ((t.at_ : Nat)) (ptr yp) (av) (t.live) (t.err) (t.on) (t.ond)), rP12 p a, rL12 p a, rH12 p a, r11O a.C p.K p.th a.yc t.cl] w2 from by repeat (with_reducible first | exact HS.out | apply Sx.alloc | apply Sx.drewN | apply Sx.drew)) 6 (by simp)) 6 (by simp)) 6 (by simp)) 6 (by simp)) 6 (by simp)) 6 (by simp)))
  clear HS
  have HS := hs
  clear hs
  refine Calls.mono (Sx.call (Sx.group [r8A p.s p.lm p.K (p.v t.at_) p.n p.u yp x, Ass.blk y 83 (cs12 p a (((1 : Nat) : Int)) ((t.at_ : Nat)) (ptr yp) (av) (t.live) (t.err) (t.on) (t.ond)), rP12 p a, rL12 p a, rH12 p a, r11O a.C p.K p.th a.yc t.cl] (l := [refO B m x.W x.L]) HS.out) (fun Rq hr _ => r12_pooled_last (t := { t with ph := 1, po := x }) (av := av) hp hb hl hr)) ?_
  rintro e w3 ⟨rfl, hs⟩
  clear HS
  have HS := hid (show Sx R w0 [Ass.blk y 83 (cs12 p a (((3 : Nat) : Int)) (((t.at_ + 1 : Nat) : Int)) (ptr yp) (av) (t.live) (t.err) (t.on) (t.ond)), rP12 p a, rL12 p a, rH12 p a, r11O a.C p.K p.th a.yc t.cl, refO B m x.W x.L] w3 from Sx.ungroup _ hs)
  clear hs qy
  obtain ⟨_, ⟨hb, _⟩, _⟩ := Sx.get (show Sx R w0 [Ass.blk y 83 (cs12 p a (((3 : Nat) : Int)) (((t.at_ + 1 : Nat) : Int)) (ptr yp) (av) (t.live) (t.err) (t.on) (t.ond)), rP12 p a, rL12 p a, rH12 p a, r11O a.C p.K p.th a.yc t.cl, refO B m x.W x.L] w3 from (show Sx R w0 [Ass.blk y 83 (cs12 p a (((3 : Nat) : Int)) (((t.at_ + 1 : Nat) : Int)) (ptr yp) (av) (t.live) (t.err) (t.on) (t.ond)), rP12 p a, rL12 p a, rH12 p a, r11O a.C p.K p.th a.yc t.cl, refO B m x.W x.L] w3 from by repeat (with_reducible first | exact HS.out | apply Sx.alloc | apply Sx.drewN | apply Sx.drew)))
  have qy := hb.k22
  clear hb
  go_wp2_with fail
  go_ret
  exact ⟨rfl, (show Sx R w0 [refO B m x.W x.L, Ass.blk y 83 (cs12 p a (((3 : Nat) : Int)) (((t.at_ + 1 : Nat) : Int)) (ptr yp) (av) (t.live) (t.err) (t.on) (t.ond)), rP12 p a, rL12 p a, rH12 p a, r11O a.C p.K p.th a.yc t.cl] _ from (Sx.pick (Sx.pick (Sx.pick (Sx.pick (Sx.pick (Sx.pick (show Sx R w0 [Ass.blk y 83 (cs12 p a (((3 : Nat) : Int)) (((t.at_ + 1 : Nat) : Int)) (ptr yp) (av) (t.live) (t.err) (t.on) (t.ond)), rP12 p a, rL12 p a, rH12 p a, r11O a.C p.K p.th a.yc t.cl, refO B m x.W x.L] _ from by repeat (with_reducible first | exact HS.out | apply Sx.alloc | apply Sx.drewN | apply Sx.drew)) 4 (by simp)) 4 (by simp)) 4 (by simp)) 4 (by simp)) 4 (by simp)) 5 (by simp)))⟩
set_option maxHeartbeats 4000000 in
theorem r12_step1next {yp : Nat} {X : Int} (hp : P12OK p) (ha : t.at_ < p.path.length) (hn : t.cl.n < p.K) (hpi : PInv (p.av (p.v t.at_)) (p.le (p.v t.at_) p.u) p.n p.lm X t.pl) (hX : X ≤ 4398046511104) (hW : t.W.length ≤ 1000000) (hL : t.L.length ≤ 1000000000) (h7 : (pNext (p.av (p.v t.at_)) (p.le (p.v t.at_) p.u) p.n p.lm t.pl).next = 7) (hb : (pNext (p.av (p.v t.at_)) (p.le (p.v t.at_) p.u) p.n p.lm t.pl).bad = false) (hl : t.at_ + 1 < p.path.length) (h : (stars (refO B m t.W t.L :: [Ass.blk y 83 (cs12 p a (((1 : Nat) : Int)) ((t.at_ : Nat)) (ptr yp) (av) (t.live) (t.err) (t.on) (t.ond)), rP12 p a, rL12 p a, rH12 p a, r11O a.C p.K p.th a.yc t.cl, r8A p.s p.lm p.K (p.v t.at_) p.n p.u yp t.po])).At R w) :
 Calls Tryz.prog 12 #[ptr y, ptr m] w fun e w' => ∃ v : Value, e = .returned (.bool false) ∧ Tr (stars ((refO B m (pNext (p.av (p.v t.at_)) (p.le (p.v t.at_) p.u) p.n p.lm t.pl).W (pNext (p.av (p.v t.at_)) (p.le (p.v t.at_) p.u) p.n p.lm t.pl).L) :: (Ass.ex fun y' : Nat => (r8A p.s p.lm p.K (p.v (t.at_ + 1)) p.n p.u y' (po0)).with_ (v = ptr y')) :: [Ass.blk y 83 (cs12 p a (((1 : Nat) : Int)) (((t.at_ + 1 : Nat) : Int)) (v) (av) (t.live) (t.err) (t.on) (t.ond)), rP12 p a, rL12 p a, rH12 p a, r11O a.C p.K p.th a.yc t.cl])) R w w' := by
 obtain ⟨w0, hw0⟩ : ∃ v, v = w := ⟨_, rfl⟩
 rw [← hw0] at h ⊢
 have HS := hid (show Sx R w0 [refO B m t.W t.L, Ass.blk y 83 (cs12 p a (((1 : Nat) : Int)) ((t.at_ : Nat)) (ptr yp) (av) (t.live) (t.err) (t.on) (t.ond)), rP12 p a, rL12 p a, rH12 p a, r11O a.C p.K p.th a.yc t.cl, r8A p.s p.lm p.K (p.v t.at_) p.n p.u yp t.po] w0 from Sx.start h)
 clear h hw0
 obtain ⟨x, hx⟩ : ∃ x, x = pNext (p.av (p.v t.at_)) (p.le (p.v t.at_) p.u) p.n p.lm t.pl := ⟨_, rfl⟩
 rw [← hx] at h7 hb ⊢
 have HXN := hid hx
 clear hx
 have hva := hp.v1 ha
 have hua := hp.u1
 have hpl1 := hp.p1
 have hsq := hp.s8
 have hs8 := hp.s8
 have hp1 := hp.p1
 have hk1 := hp.k1
 obtain ⟨ae, hae⟩ : ∃ ae : Int, ae = (if t.cl.fin = 2 then 3 else 0) := ⟨_, rfl⟩
 have HAE := hid hae
 clear hae
 have htk0 := fun w' => ref_Ticket p.tt p.s p.g p.lm p.r p.K (some ⟨a.pb, 0, none⟩) p.P.length a.pc (some ⟨a.lb, 0, none⟩) p.LL.length a.lc (t.cl.n : Int) w' (by omega) (by omega) (by omega) (by omega) (by omega)
 rw [show (p.P.length : Int) * (6 + 2 * (p.s : Int)) + 2 * (t.cl.n : Int) = ((t.tk p : Nat) : Int) from by unfold S12.tk P12.q; push_cast; rfl] at htk0
 have HTK := hid htk0
 clear htk0
 go_enter Tryz.func12, Tryz.ntmps12
 go_upto_region 1 with fail
 apply wp_region_text (WI := fun S wx => Keep0 w0 wx) (by kernel_rfl) (by kernel_rfl)
 case hob =>
  iterate 8
   apply Oblig.cons
   case h =>
    intro S w1 hwi hSi hd hcl
    apply StepOk.intro
    intro K hK
    obtain ⟨_, ⟨hb, _⟩, _⟩ := Sx.get (Sx.pick (Sx.keep HS.out hwi) 1 (by simp))
    have qy := hb.k22
    clear hb
    obtain ⟨_, ⟨hcl, _⟩, _⟩ := Sx.get (Sx.pick (Sx.keep HS.out hwi) 5 (by simp))
    go_simp
    apply hK
    · rfl
    · conv => (lhs; whnf)
    · exact hwi
   simp only [put_lit, put_none]
   try dsimp only [List.set_cons_succ, List.set_cons_zero]
  apply Oblig.cons
  case h =>
   intro S w1 hwi hSi hd hcl
   apply StepOk.intro
   intro K hK
   obtain ⟨_, ⟨hb, _⟩, _⟩ := Sx.get (Sx.pick (Sx.keep HS.out hwi) 1 (by simp))
   have qy := hb.k22
   clear hb
   obtain ⟨_, ⟨hcl, _⟩, _⟩ := Sx.get (Sx.pick (Sx.keep HS.out hwi) 5 (by simp))
   go_simp
   refine (show Calls Tryz.prog 48 _ w1 (Ret (.agg #[i64 ae, i64 (t.cl.n : Int), .bool false, i64 0]) w1) from by have h := r11_Ans t.cl hcl; unfold clAns at h; rw [← HAE.out] at h; exact h).mono ?_
   rintro e w2 ⟨rfl, hk⟩
   apply hK
   · rfl
   · conv => (lhs; whnf)
   · exact Keep0.step hwi hk
  simp only [put_lit, put_none]
  try dsimp only [List.set_cons_succ, List.set_cons_zero]
  apply Oblig.cons
  case h =>
   intro S w1 hwi hSi hd hcl
   apply StepOk.intro
   intro K hK
   obtain ⟨_, ⟨hb, _⟩, _⟩ := Sx.get (Sx.pick (Sx.keep HS.out hwi) 1 (by simp))
   have qy := hb.k22
   clear hb
   obtain ⟨_, ⟨hcl, _⟩, _⟩ := Sx.get (Sx.pick (Sx.keep HS.out hwi) 5 (by simp))
   go_simp
   apply hK
   · rfl
   · conv => (lhs; whnf)
   · exact hwi
  simp only [put_lit, put_none]
  try dsimp only [List.set_cons_succ, List.set_cons_zero]
  apply Oblig.cons
  case h =>
   intro S w1 hwi hSi hd hcl
   apply StepOk.intro
   intro K hK
   go_simp
   refine (HTK.out _).mono ?_
   rintro e w2 ⟨rfl, hk⟩
   apply hK
   · rfl
   · conv => (lhs; whnf)
   · exact Keep0.step hwi hk
  simp only [put_lit, put_none]
  try dsimp only [List.set_cons_succ, List.set_cons_zero]
  apply Oblig.cons
  case h =>
   intro S w1 hwi hSi hd hcl
   apply StepOk.intro
   intro K hK
   obtain ⟨_, ⟨hb, _⟩, _⟩ := Sx.get (Sx.pick (Sx.keep HS.out hwi) 1 (by simp))
   have qy := hb.k22
   clear hb
   obtain ⟨_, ⟨hcl, _⟩, _⟩ := Sx.get (Sx.pick (Sx.keep HS.out hwi) 5 (by simp))
   go_simp
   apply hK
   · rfl
   · conv => (lhs; whnf)
   · exact hwi
  simp only [put_lit, put_none]
  try dsimp only [List.set_cons_succ, List.set_cons_zero]
  exact Oblig.nil
 case h0 =>
  exact (Keep.refl _ _).drew
 case hend =>
  intro S wx hwi hall
  have hkx := hwi
  obtain ⟨w1, hwn⟩ : ∃ v, v = wx := ⟨_, rfl⟩
  rw [← hwn] at hkx ⊢
  have hs := hid (show Sx R w0 [refO B m t.W t.L, Ass.blk y 83 (cs12 p a (((1 : Nat) : Int)) ((t.at_ : Nat)) (ptr yp) (av) (t.live) (t.err) (t.on) (t.ond)), rP12 p a, rL12 p a, rH12 p a, r11O a.C p.K p.th a.yc t.cl, r8A p.s p.lm p.K (p.v t.at_) p.n p.u yp t.po] w1 from Sx.keep HS.out hkx)
  clear hwi hall hkx hwn HS
  have HS := hs
  clear hs
  obtain ⟨_, ⟨hb, _⟩, _⟩ := Sx.get (show Sx R w0 [Ass.blk y 83 (cs12 p a (((1 : Nat) : Int)) ((t.at_ : Nat)) (ptr yp) (av) (t.live) (t.err) (t.on) (t.ond)), refO B m t.W t.L, rP12 p a, rL12 p a, rH12 p a, r11O a.C p.K p.th a.yc t.cl, r8A p.s p.lm p.K (p.v t.at_) p.n p.u yp t.po] w1 from (Sx.pick (show Sx R w0 [refO B m t.W t.L, Ass.blk y 83 (cs12 p a (((1 : Nat) : Int)) ((t.at_ : Nat)) (ptr yp) (av) (t.live) (t.err) (t.on) (t.ond)), rP12 p a, rL12 p a, rH12 p a, r11O a.C p.K p.th a.yc t.cl, r8A p.s p.lm p.K (p.v t.at_) p.n p.u yp t.po] w1 from by repeat (with_reducible first | exact HS.out | apply Sx.alloc | apply Sx.drewN | apply Sx.drew)) 1 (by simp)))
  have qy := hb.k22
  clear hb
  go_wp2_with fail
  refine Calls.mono (Sx.call (q := Ass.star (refO B m x.W x.L) (r8A p.s p.lm p.K (p.v t.at_) p.n p.u yp x)) (Sx.pair (show Sx R w0 [refO B m t.W t.L, r8A p.s p.lm p.K (p.v t.at_) p.n p.u yp t.po, Ass.blk y 83 (cs12 p a (((1 : Nat) : Int)) ((t.at_ : Nat)) (ptr yp) (av) (t.live) (t.err) (t.on) (t.ond)), rP12 p a, rL12 p a, rH12 p a, r11O a.C p.K p.th a.yc t.cl] _ from (Sx.pick (Sx.pick (show Sx R w0 [refO B m t.W t.L, Ass.blk y 83 (cs12 p a (((1 : Nat) : Int)) ((t.at_ : Nat)) (ptr yp) (av) (t.live) (t.err) (t.on) (t.ond)), rP12 p a, rL12 p a, rH12 p a, r11O a.C p.K p.th a.yc t.cl, r8A p.s p.lm p.K (p.v t.at_) p.n p.u yp t.po] _ from by repeat (with_reducible first | exact HS.out | apply Sx.alloc | apply Sx.drewN | apply Sx.drew)) 6 (by simp)) 1 (by simp)))) (fun Rq hr hz => (show Calls Tryz.prog 51 _ _ (fun e w' => e = .returned (.bool (decide (x.next = 7))) ∧ Tr _ Rq _ w') from by rw [HXN.out]; exact r8A_Step (x := t.pl) hr hpi hX hL hW (by omega) (by omega) (by omega) (by unfold P12.av; push_cast; rfl) (by unfold P12.le; push_cast; rfl)))) ?_
  rintro e w2 ⟨rfl, hs⟩
  clear HS
  have HS := hid (show Sx R w0 [refO B m x.W x.L, r8A p.s p.lm p.K (p.v t.at_) p.n p.u yp x, Ass.blk y 83 (cs12 p a (((1 : Nat) : Int)) ((t.at_ : Nat)) (ptr yp) (av) (t.live) (t.err) (t.on) (t.ond)), rP12 p a, rL12 p a, rH12 p a, r11O a.C p.K p.th a.yc t.cl] w2 from Sx.part hs)
  clear hs
  clear qy
  obtain ⟨_, ⟨hb, _⟩, _⟩ := Sx.get (show Sx R w0 [Ass.blk y 83 (cs12 p a (((1 : Nat) : Int)) ((t.at_ : Nat)) (ptr yp) (av) (t.live) (t.err) (t.on) (t.ond)), refO B m x.W x.L, r8A p.s p.lm p.K (p.v t.at_) p.n p.u yp x, rP12 p a, rL12 p a, rH12 p a, r11O a.C p.K p.th a.yc t.cl] w2 from (Sx.pick (show Sx R w0 [refO B m x.W x.L, r8A p.s p.lm p.K (p.v t.at_) p.n p.u yp x, Ass.blk y 83 (cs12 p a (((1 : Nat) : Int)) ((t.at_ : Nat)) (ptr yp) (av) (t.live) (t.err) (t.on) (t.ond)), rP12 p a, rL12 p a, rH12 p a, r11O a.C p.K p.th a.yc t.cl] w2 from by repeat (with_reducible first | exact HS.out | apply Sx.alloc | apply Sx.drewN | apply Sx.drew)) 2 (by simp)))
  have qy := hb.k22
  clear hb
  have g1 : decide (x.next = 7) = true := by simp [h7]
  rw [g1]
  clear g1
  go_wp2_with fail
  have hs := hid (show Sx R w0 [r8A p.s p.lm p.K (p.v t.at_) p.n p.u yp x, Ass.blk y 83 (cs12 p a (((1 : Nat) : Int)) ((t.at_ : Nat)) (ptr yp) (av) (t.live) (t.err) (t.on) (t.ond)), rP12 p a, rL12 p a, rH12 p a, r11O a.C p.K p.th a.yc t.cl, refO B m x.W x.L] w2 from (Sx.pick (Sx.pick (Sx.pick (Sx.pick (Sx.pick (Sx.pick (show Sx R w0 [refO B m x.W x.L, r8A p.s p.lm p.K (p.v t.at_) p.n p.u yp x, Ass.blk y 83 (cs12 p a (((1 : Nat) : Int)) ((t.at_ : Nat)) (ptr yp) (av) (t.live) (t.err) (t.on) (t.ond)), rP12 p a, rL12 p a, rH12 p a, r11O a.C p.K p.th a.yc t.cl] w2 from by repeat (with_reducible first | exact HS.out | apply Sx.alloc | apply Sx.drewN | apply Sx.drew)) 6 (by simp)) 6 (by simp)) 6 (by simp)) 6 (by simp)) 6 (by simp)) 6 (by simp)))
  clear HS
  have HS := hs
  clear hs
  refine Calls.mono (Sx.callx (Sx.group [r8A p.s p.lm p.K (p.v t.at_) p.n p.u yp x, Ass.blk y 83 (cs12 p a (((1 : Nat) : Int)) ((t.at_ : Nat)) (ptr yp) (av) (t.live) (t.err) (t.on) (t.ond)), rP12 p a, rL12 p a, rH12 p a, r11O a.C p.K p.th a.yc t.cl] (l := [refO B m x.W x.L]) HS.out) (fun Rq hr _ => r12_pooled_next (t := { t with ph := 1, po := x }) (av := av) hp hb hl hr)) ?_
  rintro e w3 ⟨v, rfl, hs⟩
  clear HS
  have HS := hid (show Sx R w0 [(Ass.ex fun y' : Nat => (r8A p.s p.lm p.K (p.v (t.at_ + 1)) p.n p.u y' (po0)).with_ (v = ptr y')), Ass.blk y 83 (cs12 p a (((1 : Nat) : Int)) (((t.at_ + 1 : Nat) : Int)) (v) (av) (t.live) (t.err) (t.on) (t.ond)), rP12 p a, rL12 p a, rH12 p a, r11O a.C p.K p.th a.yc t.cl, refO B m x.W x.L] w3 from Sx.ungroup _ hs)
  clear hs qy
  obtain ⟨_, ⟨hb, _⟩, _⟩ := Sx.get (show Sx R w0 [Ass.blk y 83 (cs12 p a (((1 : Nat) : Int)) (((t.at_ + 1 : Nat) : Int)) (v) (av) (t.live) (t.err) (t.on) (t.ond)), (Ass.ex fun y' : Nat => (r8A p.s p.lm p.K (p.v (t.at_ + 1)) p.n p.u y' (po0)).with_ (v = ptr y')), rP12 p a, rL12 p a, rH12 p a, r11O a.C p.K p.th a.yc t.cl, refO B m x.W x.L] w3 from (Sx.pick (show Sx R w0 [(Ass.ex fun y' : Nat => (r8A p.s p.lm p.K (p.v (t.at_ + 1)) p.n p.u y' (po0)).with_ (v = ptr y')), Ass.blk y 83 (cs12 p a (((1 : Nat) : Int)) (((t.at_ + 1 : Nat) : Int)) (v) (av) (t.live) (t.err) (t.on) (t.ond)), rP12 p a, rL12 p a, rH12 p a, r11O a.C p.K p.th a.yc t.cl, refO B m x.W x.L] w3 from by repeat (with_reducible first | exact HS.out | apply Sx.alloc | apply Sx.drewN | apply Sx.drew)) 1 (by simp)))
  have qy := hb.k22
  clear hb
  go_wp2_with fail
  go_ret
  exact ⟨v, rfl, (show Sx R w0 [refO B m x.W x.L, (Ass.ex fun y' : Nat => (r8A p.s p.lm p.K (p.v (t.at_ + 1)) p.n p.u y' (po0)).with_ (v = ptr y')), Ass.blk y 83 (cs12 p a (((1 : Nat) : Int)) (((t.at_ + 1 : Nat) : Int)) (v) (av) (t.live) (t.err) (t.on) (t.ond)), rP12 p a, rL12 p a, rH12 p a, r11O a.C p.K p.th a.yc t.cl] _ from (Sx.pick (Sx.pick (Sx.pick (Sx.pick (Sx.pick (Sx.pick (Sx.pick (show Sx R w0 [(Ass.ex fun y' : Nat => (r8A p.s p.lm p.K (p.v (t.at_ + 1)) p.n p.u y' (po0)).with_ (v = ptr y')), Ass.blk y 83 (cs12 p a (((1 : Nat) : Int)) (((t.at_ + 1 : Nat) : Int)) (v) (av) (t.live) (t.err) (t.on) (t.ond)), rP12 p a, rL12 p a, rH12 p a, r11O a.C p.K p.th a.yc t.cl, refO B m x.W x.L] _ from by repeat (with_reducible first | exact HS.out | apply Sx.alloc | apply Sx.drewN | apply Sx.drew)) 5 (by simp)) 5 (by simp)) 5 (by simp)) 5 (by simp)) 5 (by simp)) 5 (by simp)) 6 (by simp)))⟩
end
end Go.Proofs.YthaceckccobgeaaGreat

namespace Go.Proofs.YthaceckccobgeaaGreat
open Go.RowKit
set_option linter.unusedVariables false
set_option linter.unusedSimpArgs false
set_option maxRecDepth 100000
section
variable {B m y : Nat} {p : P12} {t : S12} {a : Ad12} {pv av : Value} {R : Nat → Prop} {w : World}
set_option maxHeartbeats 4000000 in
theorem r12_step4 (hp : P12OK p) (hn : t.cl.n < p.K) (htk : t.tk p < t.W.length) (hW : t.W.length ≤ 10000) (hL : t.L.length ≤ 1000000000) (h : (stars (refO B m t.W t.L :: [Ass.blk y 83 (cs12 p a (((4 : Nat) : Int)) ((t.at_ : Nat)) (pv) (av) (t.live) (t.err) (t.on) (t.ond)), rP12 p a, rL12 p a, rH12 p a, r11O a.C p.K p.th a.yc t.cl])).At R w) :
 Calls Tryz.prog 12 #[ptr y, ptr m] w fun e w' => ∃ v : Value, e = .returned (.bool false) ∧ Tr (stars ((refO B m (t.W.set (t.tk p) (pNext6 t.cl.set 2)) (t.L ++ [⟨4, (t.tk p : Nat), pNext6 t.cl.set 2, 0, false⟩])) :: (Ass.ex fun y' : Nat => (r6O (p.ct (p.v (0))) p.s p.g p.n y' (ad0 p)).with_ (v = ptr y')) :: [Ass.blk y 83 (cs12 p a (((5 : Nat) : Int)) (0) (pv) (v) (pNext6 t.cl.set 2) (t.err) (t.on) (t.ond)), rP12 p a, rL12 p a, rH12 p a, r11O a.C p.K p.th a.yc t.cl])) R w w' := by
 have hh1 := hp.h1
 obtain ⟨w0, hw0⟩ : ∃ v, v = w := ⟨_, rfl⟩
 rw [← hw0] at h ⊢
 have HS := hid (show Sx R w0 [refO B m t.W t.L, Ass.blk y 83 (cs12 p a (((4 : Nat) : Int)) ((t.at_ : Nat)) (pv) (av) (t.live) (t.err) (t.on) (t.ond)), rP12 p a, rL12 p a, rH12 p a, r11O a.C p.K p.th a.yc t.cl] w0 from Sx.start h)
 clear h hw0
 have hs8 := hp.s8
 have hp1 := hp.p1
 have hk1 := hp.k1
 obtain ⟨ae, hae⟩ : ∃ ae : Int, ae = (if t.cl.fin = 2 then 3 else 0) := ⟨_, rfl⟩
 have HAE := hid hae
 clear hae
 have htk0 := fun w' => ref_Ticket p.tt p.s p.g p.lm p.r p.K (some ⟨a.pb, 0, none⟩) p.P.length a.pc (some ⟨a.lb, 0, none⟩) p.LL.length a.lc (t.cl.n : Int) w' (by omega) (by omega) (by omega) (by omega) (by omega)
 rw [show (p.P.length : Int) * (6 + 2 * (p.s : Int)) + 2 * (t.cl.n : Int) = ((t.tk p : Nat) : Int) from by unfold S12.tk P12.q; push_cast; rfl] at htk0
 have HTK := hid htk0
 clear htk0
 go_enter Tryz.func12, Tryz.ntmps12
 go_upto_region 1 with fail
 apply wp_region_text (WI := fun S wx => Keep0 w0 wx) (by kernel_rfl) (by kernel_rfl)
 case hob =>
  iterate 8
   apply Oblig.cons
   case h =>
    intro S w1 hwi hSi hd hcl
    apply StepOk.intro
    intro K hK
    obtain ⟨_, ⟨hb, _⟩, _⟩ := Sx.get (Sx.pick (Sx.keep HS.out hwi) 1 (by simp))
    have qy := hb.k22
    clear hb
    obtain ⟨_, ⟨hcl, _⟩, _⟩ := Sx.get (Sx.pick (Sx.keep HS.out hwi) 5 (by simp))
    go_simp
    apply hK
    · rfl
    · conv => (lhs; whnf)
    · exact hwi
   simp only [put_lit, put_none]
   try dsimp only [List.set_cons_succ, List.set_cons_zero]
  apply Oblig.cons
  case h =>
   intro S w1 hwi hSi hd hcl
   apply StepOk.intro
   intro K hK
   obtain ⟨_, ⟨hb, _⟩, _⟩ := Sx.get (Sx.pick (Sx.keep HS.out hwi) 1 (by simp))
   have qy := hb.k22
   clear hb
   obtain ⟨_, ⟨hcl, _⟩, _⟩ := Sx.get (Sx.pick (Sx.keep HS.out hwi) 5 (by simp))
   go_simp
   refine (show Calls Tryz.prog 48 _ w1 (Ret (.agg #[i64 ae, i64 (t.cl.n : Int), .bool false, i64 0]) w1) from by have h := r11_Ans t.cl hcl; unfold clAns at h; rw [← HAE.out] at h; exact h).mono ?_
   rintro e w2 ⟨rfl, hk⟩
   apply hK
   · rfl
   · conv => (lhs; whnf)
   · exact Keep0.step hwi hk
  simp only [put_lit, put_none]
  try dsimp only [List.set_cons_succ, List.set_cons_zero]
  apply Oblig.cons
  case h =>
   intro S w1 hwi hSi hd hcl
   apply StepOk.intro
   intro K hK
   obtain ⟨_, ⟨hb, _⟩, _⟩ := Sx.get (Sx.pick (Sx.keep HS.out hwi) 1 (by simp))
   have qy := hb.k22
   clear hb
   obtain ⟨_, ⟨hcl, _⟩, _⟩ := Sx.get (Sx.pick (Sx.keep HS.out hwi) 5 (by simp))
   go_simp
   apply hK
   · rfl
   · conv => (lhs; whnf)
   · exact hwi
  simp only [put_lit, put_none]
  try dsimp only [List.set_cons_succ, List.set_cons_zero]
  apply Oblig.cons
  case h =>
   intro S w1 hwi hSi hd hcl
   apply StepOk.intro
   intro K hK
   go_simp
   refine (HTK.out _).mono ?_
   rintro e w2 ⟨rfl, hk⟩
   apply hK
   · rfl
   · conv => (lhs; whnf)
   · exact Keep0.step hwi hk
  simp only [put_lit, put_none]
  try dsimp only [List.set_cons_succ, List.set_cons_zero]
  apply Oblig.cons
  case h =>
   intro S w1 hwi hSi hd hcl
   apply StepOk.intro
   intro K hK
   obtain ⟨_, ⟨hb, _⟩, _⟩ := Sx.get (Sx.pick (Sx.keep HS.out hwi) 1 (by simp))
   have qy := hb.k22
   clear hb
   obtain ⟨_, ⟨hcl, _⟩, _⟩ := Sx.get (Sx.pick (Sx.keep HS.out hwi) 5 (by simp))
   go_simp
   apply hK
   · rfl
   · conv => (lhs; whnf)
   · exact hwi
  simp only [put_lit, put_none]
  try dsimp only [List.set_cons_succ, List.set_cons_zero]
  exact Oblig.nil
 case h0 =>
  exact (Keep.refl _ _).drew
 case hend =>
  intro S wx hwi hall
  have hkx := hwi
  obtain ⟨w1, hwn⟩ : ∃ v, v = wx := ⟨_, rfl⟩
  rw [← hwn] at hkx ⊢
  have hs := hid (show Sx R w0 [refO B m t.W t.L, Ass.blk y 83 (cs12 p a (((4 : Nat) : Int)) ((t.at_ : Nat)) (pv) (av) (t.live) (t.err) (t.on) (t.ond)), rP12 p a, rL12 p a, rH12 p a, r11O a.C p.K p.th a.yc t.cl] w1 from Sx.keep HS.out hkx)
  clear hwi hall hkx hwn HS
  have HS := hs
  clear hs
  obtain ⟨_, ⟨hb, _⟩, _⟩ := Sx.get (show Sx R w0 [Ass.blk y 83 (cs12 p a (((4 : Nat) : Int)) ((t.at_ : Nat)) (pv) (av) (t.live) (t.err) (t.on) (t.ond)), refO B m t.W t.L, rP12 p a, rL12 p a, rH12 p a, r11O a.C p.K p.th a.yc t.cl] w1 from (Sx.pick (show Sx R w0 [refO B m t.W t.L, Ass.blk y 83 (cs12 p a (((4 : Nat) : Int)) ((t.at_ : Nat)) (pv) (av) (t.live) (t.err) (t.on) (t.ond)), rP12 p a, rL12 p a, rH12 p a, r11O a.C p.K p.th a.yc t.cl] w1 from by repeat (with_reducible first | exact HS.out | apply Sx.alloc | apply Sx.drewN | apply Sx.drew)) 1 (by simp)))
  have qy := hb.k22
  clear hb
  obtain ⟨_, ⟨hcl, _⟩, _⟩ := Sx.get (show Sx R w0 [r11O a.C p.K p.th a.yc t.cl, refO B m t.W t.L, Ass.blk y 83 (cs12 p a (((4 : Nat) : Int)) ((t.at_ : Nat)) (pv) (av) (t.live) (t.err) (t.on) (t.ond)), rP12 p a, rL12 p a, rH12 p a] w1 from (Sx.pick (show Sx R w0 [refO B m t.W t.L, Ass.blk y 83 (cs12 p a (((4 : Nat) : Int)) ((t.at_ : Nat)) (pv) (av) (t.live) (t.err) (t.on) (t.ond)), rP12 p a, rL12 p a, rH12 p a, r11O a.C p.K p.th a.yc t.cl] w1 from by repeat (with_reducible first | exact HS.out | apply Sx.alloc | apply Sx.drewN | apply Sx.drew)) 5 (by simp)))
  have HWD := hid (r11_Word t.cl hcl)
  clear hcl
  go_wp2_with fail
  refine Calls.mono (HWD.out) ?_
  rintro e w2 ⟨rfl, hk⟩
  have hs := Sx.keep (show Sx R w0 [refO B m t.W t.L, Ass.blk y 83 (cs12 p a (((4 : Nat) : Int)) ((t.at_ : Nat)) (pv) (av) (t.live) (t.err) (t.on) (t.ond)), rP12 p a, rL12 p a, rH12 p a, r11O a.C p.K p.th a.yc t.cl] _ from by repeat (with_reducible first | exact HS.out | apply Sx.alloc | apply Sx.drewN | apply Sx.drew)) hk
  clear HS
  have HS := hid (show Sx R w0 [refO B m t.W t.L, Ass.blk y 83 (cs12 p a (((4 : Nat) : Int)) ((t.at_ : Nat)) (pv) (av) (t.live) (t.err) (t.on) (t.ond)), rP12 p a, rL12 p a, rH12 p a, r11O a.C p.K p.th a.yc t.cl] w2 from hs)
  clear hs hk
  clear qy HWD
  obtain ⟨_, ⟨hb, _⟩, _⟩ := Sx.get (show Sx R w0 [Ass.blk y 83 (cs12 p a (((4 : Nat) : Int)) ((t.at_ : Nat)) (pv) (av) (t.live) (t.err) (t.on) (t.ond)), refO B m t.W t.L, rP12 p a, rL12 p a, rH12 p a, r11O a.C p.K p.th a.yc t.cl] w2 from (Sx.pick (show Sx R w0 [refO B m t.W t.L, Ass.blk y 83 (cs12 p a (((4 : Nat) : Int)) ((t.at_ : Nat)) (pv) (av) (t.live) (t.err) (t.on) (t.ond)), rP12 p a, rL12 p a, rH12 p a, r11O a.C p.K p.th a.yc t.cl] w2 from by repeat (with_reducible first | exact HS.out | apply Sx.alloc | apply Sx.drewN | apply Sx.drew)) 1 (by simp)))
  have qy := hb.k22
  clear hb
  go_wp2_with fail
  refine Calls.mono (ref10_TurnN t.cl.set 2 _ (by omega)) ?_
  rintro e wq ⟨rfl, rfl⟩
  go_wp2_with fail
  refine Calls.mono (Sx.call (q := refO B m (t.W.set (t.tk p) (pNext6 t.cl.set 2)) (t.L ++ [⟨4, (t.tk p : Nat), pNext6 t.cl.set 2, 0, false⟩])) (show Sx R w0 [refO B m t.W t.L, Ass.blk y 83 (cs12 p a (((4 : Nat) : Int)) ((t.at_ : Nat)) (pv) (av) (t.live) (t.err) (t.on) (t.ond)), rP12 p a, rL12 p a, rH12 p a, r11O a.C p.K p.th a.yc t.cl] _ from (show Sx R w0 [refO B m t.W t.L, Ass.blk y 83 (cs12 p a (((4 : Nat) : Int)) ((t.at_ : Nat)) (pv) (av) (t.live) (t.err) (t.on) (t.ond)), rP12 p a, rL12 p a, rH12 p a, r11O a.C p.K p.th a.yc t.cl] _ from by repeat (with_reducible first | exact HS.out | apply Sx.alloc | apply Sx.drewN | apply Sx.drew))) (fun Rq hr hz => refO_Store (t.tk p) (pNext6 t.cl.set 2) hr (by omega) (by omega) hL)) ?_
  rintro e w3 ⟨rfl, hs⟩
  clear HS
  have HS := hid (show Sx R w0 [refO B m (t.W.set (t.tk p) (pNext6 t.cl.set 2)) (t.L ++ [⟨4, (t.tk p : Nat), pNext6 t.cl.set 2, 0, false⟩]), Ass.blk y 83 (cs12 p a (((4 : Nat) : Int)) ((t.at_ : Nat)) (pv) (av) (t.live) (t.err) (t.on) (t.ond)), rP12 p a, rL12 p a, rH12 p a, r11O a.C p.K p.th a.yc t.cl] w3 from hs)
  clear hs
  clear qy
  obtain ⟨_, ⟨hb, _⟩, _⟩ := Sx.get (show Sx R w0 [Ass.blk y 83 (cs12 p a (((4 : Nat) : Int)) ((t.at_ : Nat)) (pv) (av) (t.live) (t.err) (t.on) (t.ond)), refO B m (t.W.set (t.tk p) (pNext6 t.cl.set 2)) (t.L ++ [⟨4, (t.tk p : Nat), pNext6 t.cl.set 2, 0, false⟩]), rP12 p a, rL12 p a, rH12 p a, r11O a.C p.K p.th a.yc t.cl] w3 from (Sx.pick (show Sx R w0 [refO B m (t.W.set (t.tk p) (pNext6 t.cl.set 2)) (t.L ++ [⟨4, (t.tk p : Nat), pNext6 t.cl.set 2, 0, false⟩]), Ass.blk y 83 (cs12 p a (((4 : Nat) : Int)) ((t.at_ : Nat)) (pv) (av) (t.live) (t.err) (t.on) (t.ond)), rP12 p a, rL12 p a, rH12 p a, r11O a.C p.K p.th a.yc t.cl] w3 from by repeat (with_reducible first | exact HS.out | apply Sx.alloc | apply Sx.drewN | apply Sx.drew)) 1 (by simp)))
  have qy := hb.k22
  clear hb
  go_upto_region 26 with fail
  obtain ⟨w4, hwn⟩ : ∃ v, v = (((w3).setCell ⟨y, 17, none⟩ (i64 (pNext6 t.cl.set 2))).setCell ⟨y, 12, none⟩ (i64 5)).setCell ⟨y, 13, none⟩ (i64 0) := ⟨_, rfl⟩
  rw [← hwn]
  have hs := hid (show Sx R w0 [Ass.blk y 83 (cs12 p a (((5 : Nat) : Int)) (0) (pv) (av) (pNext6 t.cl.set 2) (t.err) (t.on) (t.ond)), refO B m (t.W.set (t.tk p) (pNext6 t.cl.set 2)) (t.L ++ [⟨4, (t.tk p : Nat), pNext6 t.cl.set 2, 0, false⟩]), rP12 p a, rL12 p a, rH12 p a, r11O a.C p.K p.th a.yc t.cl] w4 from by rw [hwn]; exact (Sx.tr (Sx.tr (Sx.tr (show Sx R w0 [Ass.blk y 83 (cs12 p a (((4 : Nat) : Int)) ((t.at_ : Nat)) (pv) (av) (t.live) (t.err) (t.on) (t.ond)), refO B m (t.W.set (t.tk p) (pNext6 t.cl.set 2)) (t.L ++ [⟨4, (t.tk p : Nat), pNext6 t.cl.set 2, 0, false⟩]), rP12 p a, rL12 p a, rH12 p a, r11O a.C p.K p.th a.yc t.cl] _ from (Sx.pick (show Sx R w0 [refO B m (t.W.set (t.tk p) (pNext6 t.cl.set 2)) (t.L ++ [⟨4, (t.tk p : Nat), pNext6 t.cl.set 2, 0, false⟩]), Ass.blk y 83 (cs12 p a (((4 : Nat) : Int)) ((t.at_ : Nat)) (pv) (av) (t.live) (t.err) (t.on) (t.ond)), rP12 p a, rL12 p a, rH12 p a, r11O a.C p.K p.th a.yc t.cl] _ from by repeat (with_reducible first | exact HS.out | apply Sx.alloc | apply Sx.drewN | apply Sx.drew)) 1 (by simp))) (fun Rq hr => blk_store hr 17 (i64 (pNext6 t.cl.set 2)))) (fun Rq hr => blk_store hr 12 (i64 5))) (fun Rq hr => blk_store hr 13 (i64 0))))
  clear HS hwn
  have HS := hs
  clear hs
  clear qy
  have hs := hid (show Sx R w0 [Ass.blk y 83 (cs12 p a (((5 : Nat) : Int)) (0) (pv) (av) (pNext6 t.cl.set 2) (t.err) (t.on) (t.ond)), rP12 p a, rL12 p a, rH12 p a, r11O a.C p.K p.th a.yc t.cl, refO B m (t.W.set (t.tk p) (pNext6 t.cl.set 2)) (t.L ++ [⟨4, (t.tk p : Nat), pNext6 t.cl.set 2, 0, false⟩])] w4 from (Sx.pick (Sx.pick (Sx.pick (Sx.pick (Sx.pick (Sx.pick (show Sx R w0 [Ass.blk y 83 (cs12 p a (((5 : Nat) : Int)) (0) (pv) (av) (pNext6 t.cl.set 2) (t.err) (t.on) (t.ond)), refO B m (t.W.set (t.tk p) (pNext6 t.cl.set 2)) (t.L ++ [⟨4, (t.tk p : Nat), pNext6 t.cl.set 2, 0, false⟩]), rP12 p a, rL12 p a, rH12 p a, r11O a.C p.K p.th a.yc t.cl] w4 from by repeat (with_reducible first | exact HS.out | apply Sx.alloc | apply Sx.drewN | apply Sx.drew)) 1 (by simp)) 5 (by simp)) 5 (by simp)) 5 (by simp)) 5 (by simp)) 5 (by simp)))
  clear HS
  have HS := hs
  clear hs
  have hp0 : 0 < p.path.length := by omega
  have hvl : p.v 0 < p.P.length := hp.v1 hp0
  have ht1 := hp.t1
  have HP := hid hp
  clear hp
  apply wp_region_free (WI := NS 19 22 R w0 [Ass.blk y 83 (cs12 p a (((5 : Nat) : Int)) (0) (pv) (av) (pNext6 t.cl.set 2) (t.err) (t.on) (t.ond)), rP12 p a, rL12 p a, rH12 p a, r11O a.C p.K p.th a.yc t.cl, refO B m (t.W.set (t.tk p) (pNext6 t.cl.set 2)) (t.L ++ [⟨4, (t.tk p : Nat), pNext6 t.cl.set 2, 0, false⟩])] (fun v => Ass.ex fun y' : Nat => (r6O (p.ct (p.v 0)) p.s p.g p.n y' (ad0 p)).with_ (v = ptr y')) (fun v => [Ass.blk y 83 (((cs12 p a (((5 : Nat) : Int)) (0) (pv) (av) (pNext6 t.cl.set 2) (t.err) (t.on) (t.ond))).set 16 v), rP12 p a, rL12 p a, rH12 p a, r11O a.C p.K p.th a.yc t.cl, refO B m (t.W.set (t.tk p) (pNext6 t.cl.set 2)) (t.L ++ [⟨4, (t.tk p : Nat), pNext6 t.cl.set 2, 0, false⟩])])) (by kernel_rfl) (by kernel_rfl)
  case hob =>
   iterate 4
    apply ObligF.fixed
    case h =>
     intro S gh w1 hwi hSi hd hcl
     apply StepOk.intro
     intro K hK
     go_simp
     apply hK
     · rfl
     · conv => (lhs; whnf)
     · exact hwi.fixed (by decide)
    simp only [put_lit, put_none]
    try dsimp only [List.set_cons_succ, List.set_cons_zero]
   apply ObligF.fixed
   case h =>
    intro S gh w1 hwi hSi hd hcl
    apply StepOk.intro
    intro K hK
    have hlast : S 22 = false := by
     cases h : S 22 with
     | false => rfl
     | true => exact absurd ((hcl 22 _ rfl h) ⟨4, .phase⟩ (by simp) rfl) (by rw [hSi]; decide)
    obtain ⟨_, _, _, ⟨hby, _⟩, ⟨_, _, hrp, ⟨_, _, hrl, ⟨_, _, hrh, _⟩, _⟩, _⟩, _⟩ := hwi.at_ hlast
    have qyq := hby.k22
    go_simp
    apply hK
    · rfl
    · conv => (lhs; whnf)
    · exact hwi.fixed (by decide)
   simp only [put_lit, put_none]
   try dsimp only [List.set_cons_succ, List.set_cons_zero]
   iterate 3
    apply ObligF.fixed
    case h =>
     intro S gh w1 hwi hSi hd hcl
     apply StepOk.intro
     intro K hK
     go_simp
     apply hK
     · rfl
     · conv => (lhs; whnf)
     · exact hwi.fixed (by decide)
    simp only [put_lit, put_none]
    try dsimp only [List.set_cons_succ, List.set_cons_zero]
   apply ObligF.fixed
   case h =>
    intro S gh w1 hwi hSi hd hcl
    apply StepOk.intro
    intro K hK
    have hlast : S 22 = false := by
     cases h : S 22 with
     | false => rfl
     | true => exact absurd ((hcl 22 _ rfl h) ⟨8, .phase⟩ (by simp) rfl) (by rw [hSi]; decide)
    obtain ⟨_, _, _, ⟨hby, _⟩, ⟨_, _, hrp, ⟨_, _, hrl, ⟨_, _, hrh, _⟩, _⟩, _⟩, _⟩ := hwi.at_ hlast
    have qyq := hby.k22
    go_simp
    apply hK
    · rfl
    · conv => (lhs; whnf)
    · exact hwi.fixed (by decide)
   simp only [put_lit, put_none]
   try dsimp only [List.set_cons_succ, List.set_cons_zero]
   apply ObligF.fixed
   case h =>
    intro S gh w1 hwi hSi hd hcl
    apply StepOk.intro
    intro K hK
    go_simp
    apply hK
    · rfl
    · conv => (lhs; whnf)
    · exact hwi.fixed (by decide)
   simp only [put_lit, put_none]
   try dsimp only [List.set_cons_succ, List.set_cons_zero]
   apply ObligF.fixed
   case h =>
    intro S gh w1 hwi hSi hd hcl
    apply StepOk.intro
    intro K hK
    have hlast : S 22 = false := by
     cases h : S 22 with
     | false => rfl
     | true => exact absurd ((hcl 22 _ rfl h) ⟨10, .phase⟩ (by simp) rfl) (by rw [hSi]; decide)
    obtain ⟨_, _, _, ⟨hby, _⟩, ⟨_, _, hrp, ⟨_, _, hrl, ⟨_, _, hrh, _⟩, _⟩, _⟩, _⟩ := hwi.at_ hlast
    have hcl := path_cell hrh (i := 0) (by omega)
    have hcz := path_lt hrh (by omega)
    go_simp
    apply hK
    · rfl
    · conv => (lhs; whnf)
    · exact hwi.fixed (by decide)
   simp only [put_lit, put_none]
   try dsimp only [List.set_cons_succ, List.set_cons_zero]
   iterate 3
    apply ObligF.fixed
    case h =>
     intro S gh w1 hwi hSi hd hcl
     apply StepOk.intro
     intro K hK
     go_simp
     apply hK
     · rfl
     · conv => (lhs; whnf)
     · exact hwi.fixed (by decide)
    simp only [put_lit, put_none]
    try dsimp only [List.set_cons_succ, List.set_cons_zero]
   apply ObligF.fixed
   case h =>
    intro S gh w1 hwi hSi hd hcl
    apply StepOk.intro
    intro K hK
    have hlast : S 22 = false := by
     cases h : S 22 with
     | false => rfl
     | true => exact absurd ((hcl 22 _ rfl h) ⟨14, .phase⟩ (by simp) rfl) (by rw [hSi]; decide)
    obtain ⟨_, _, _, ⟨hby, _⟩, ⟨_, _, hrp, ⟨_, _, hrl, ⟨_, _, hrh, _⟩, _⟩, _⟩, _⟩ := hwi.at_ hlast
    have qyq := hby.k22
    go_simp
    apply hK
    · rfl
    · conv => (lhs; whnf)
    · exact hwi.fixed (by decide)
   simp only [put_lit, put_none]
   try dsimp only [List.set_cons_succ, List.set_cons_zero]
   iterate 3
    apply ObligF.fixed
    case h =>
     intro S gh w1 hwi hSi hd hcl
     apply StepOk.intro
     intro K hK
     go_simp
     apply hK
     · rfl
     · conv => (lhs; whnf)
     · exact hwi.fixed (by decide)
    simp only [put_lit, put_none]
    try dsimp only [List.set_cons_succ, List.set_cons_zero]
   apply ObligF.fixed
   case h =>
    intro S gh w1 hwi hSi hd hcl
    apply StepOk.intro
    intro K hK
    have hlast : S 22 = false := by
     cases h : S 22 with
     | false => rfl
     | true => exact absurd ((hcl 22 _ rfl h) ⟨18, .phase⟩ (by simp) rfl) (by rw [hSi]; decide)
    obtain ⟨_, _, _, ⟨hby, _⟩, ⟨_, _, hrp, ⟨_, _, hrl, ⟨_, _, hrh, _⟩, _⟩, _⟩, _⟩ := hwi.at_ hlast
    have qyq := hby.k22
    go_simp
    apply hK
    · rfl
    · conv => (lhs; whnf)
    · exact hwi.fixed (by decide)
   simp only [put_lit, put_none]
   try dsimp only [List.set_cons_succ, List.set_cons_zero]
   apply ObligF.free
   case h =>
    intro S gh w1 hwi hSi hd hcl
    apply StepG.intro
    intro K hK
    have hlast : S 22 = false := by
     cases h : S 22 with
     | false => rfl
     | true => exact absurd ((hcl 22 _ rfl h) ⟨19, .data⟩ (by simp) rfl) (by rw [hSi]; decide)
    obtain ⟨_, _, _, ⟨hby, _⟩, ⟨_, _, hrp, ⟨_, _, hrl, ⟨_, _, hrh, _⟩, _⟩, _⟩, _⟩ := hwi.at_ hlast
    have qyq := hby.k22
    go_simp
    refine Calls.mono (r12_Put p.tt p.g p.lm p.r p.K p.s (some ⟨a.pb, 0, none⟩) p.P.length a.pc (some ⟨a.lb, 0, none⟩) p.LL.length a.lc (p.v 0) p.n p.th _ hs8 (by omega) ht1 [] []) ?_
    rintro e w2 ⟨yn, rfl, hn⟩
    apply hK
    · rfl
    · exact hwi.made (by decide) hSi hlast (ptr yn) (nw_with hn)
   simp only [put_lit, put_none]
   try dsimp only [List.set_cons_succ, List.set_cons_zero]
   iterate 2
    apply ObligF.fixed
    case h =>
     intro S gh w1 hwi hSi hd hcl
     apply StepOk.intro
     intro K hK
     go_simp
     apply hK
     · rfl
     · conv => (lhs; whnf)
     · exact hwi.fixed (by decide)
    simp only [put_lit, put_none]
    try dsimp only [List.set_cons_succ, List.set_cons_zero]
   apply ObligF.fixed
   case h =>
    intro S gh w1 hwi hSi hd hcl
    apply StepOk.intro
    intro K hK
    have hmade := hd ⟨19, .data⟩ (by simp) rfl
    have hlast := hSi
    obtain ⟨_, _, _, ⟨hby, _⟩, ⟨_, _, hrp, ⟨_, _, hrl, ⟨_, _, hrh, _⟩, _⟩, _⟩, _⟩ := hwi.at_ hlast
    have qyq := hby.k22
    obtain ⟨_, ⟨yq, _, e1⟩, _⟩ := Sx.get ((hwi.1 hSi).2 hmade)
    rw [e1]
    go_simp
    apply hK
    · rfl
    · conv => (lhs; whnf)
    · exact hwi.done hmade hSi (fun hs => by rw [e1] at hs ⊢; exact Sx.pick (Sx.tr (Sx.pick hs 1 (by simp)) (fun R hr => blk_store hr 16 _)) 1 (by simp))
   simp only [put_lit, put_none]
   try dsimp only [List.set_cons_succ, List.set_cons_zero]
   exact ObligF.nil
  case h0 =>
   exact NS.start HS.out (by decide)
  case hend =>
   intro S gh wx hwi hall
   obtain ⟨v, hv⟩ := hwi.end_ (hall 22 (by decide))
   obtain ⟨w5, hwn⟩ : ∃ v, v = wx := ⟨_, rfl⟩
   rw [← hwn] at hv ⊢
   have hs := hid (show Sx R w0 [(Ass.ex fun y' : Nat => (r6O (p.ct (p.v (0))) p.s p.g p.n y' (ad0 p)).with_ (v = ptr y')), Ass.blk y 83 (cs12 p a (((5 : Nat) : Int)) (0) (pv) (v) (pNext6 t.cl.set 2) (t.err) (t.on) (t.ond)), rP12 p a, rL12 p a, rH12 p a, r11O a.C p.K p.th a.yc t.cl, refO B m (t.W.set (t.tk p) (pNext6 t.cl.set 2)) (t.L ++ [⟨4, (t.tk p : Nat), pNext6 t.cl.set 2, 0, false⟩])] w5 from hv)
   clear hwi hall hv hwn HS
   have HS := hs
   clear hs
   obtain ⟨_, ⟨hb, _⟩, _⟩ := Sx.get (show Sx R w0 [Ass.blk y 83 (cs12 p a (((5 : Nat) : Int)) (0) (pv) (v) (pNext6 t.cl.set 2) (t.err) (t.on) (t.ond)), (Ass.ex fun y' : Nat => (r6O (p.ct (p.v (0))) p.s p.g p.n y' (ad0 p)).with_ (v = ptr y')), rP12 p a, rL12 p a, rH12 p a, r11O a.C p.K p.th a.yc t.cl, refO B m (t.W.set (t.tk p) (pNext6 t.cl.set 2)) (t.L ++ [⟨4, (t.tk p : Nat), pNext6 t.cl.set 2, 0, false⟩])] w5 from (Sx.pick (show Sx R w0 [(Ass.ex fun y' : Nat => (r6O (p.ct (p.v (0))) p.s p.g p.n y' (ad0 p)).with_ (v = ptr y')), Ass.blk y 83 (cs12 p a (((5 : Nat) : Int)) (0) (pv) (v) (pNext6 t.cl.set 2) (t.err) (t.on) (t.ond)), rP12 p a, rL12 p a, rH12 p a, r11O a.C p.K p.th a.yc t.cl, refO B m (t.W.set (t.tk p) (pNext6 t.cl.set 2)) (t.L ++ [⟨4, (t.tk p : Nat), pNext6 t.cl.set 2, 0, false⟩])] w5 from by repeat (with_reducible first | exact HS.out | apply Sx.alloc | apply Sx.drewN | apply Sx.drew)) 1 (by simp)))
   have qy := hb.k22
   clear hb
   go_wp2_with fail
   go_ret
   exact ⟨v, rfl, (show Sx R w0 [refO B m (t.W.set (t.tk p) (pNext6 t.cl.set 2)) (t.L ++ [⟨4, (t.tk p : Nat), pNext6 t.cl.set 2, 0, false⟩]), (Ass.ex fun y' : Nat => (r6O (p.ct (p.v (0))) p.s p.g p.n y' (ad0 p)).with_ (v = ptr y')), Ass.blk y 83 (cs12 p a (((5 : Nat) : Int)) (0) (pv) (v) (pNext6 t.cl.set 2) (t.err) (t.on) (t.ond)), rP12 p a, rL12 p a, rH12 p a, r11O a.C p.K p.th a.yc t.cl] _ from (Sx.pick (Sx.pick (Sx.pick (Sx.pick (Sx.pick (Sx.pick (Sx.pick (show Sx R w0 [(Ass.ex fun y' : Nat => (r6O (p.ct (p.v (0))) p.s p.g p.n y' (ad0 p)).with_ (v = ptr y')), Ass.blk y 83 (cs12 p a (((5 : Nat) : Int)) (0) (pv) (v) (pNext6 t.cl.set 2) (t.err) (t.on) (t.ond)), rP12 p a, rL12 p a, rH12 p a, r11O a.C p.K p.th a.yc t.cl, refO B m (t.W.set (t.tk p) (pNext6 t.cl.set 2)) (t.L ++ [⟨4, (t.tk p : Nat), pNext6 t.cl.set 2, 0, false⟩])] _ from by repeat (with_reducible first | exact HS.out | apply Sx.alloc | apply Sx.drewN | apply Sx.drew)) 5 (by simp)) 5 (by simp)) 5 (by simp)) 5 (by simp)) 5 (by simp)) 5 (by simp)) 6 (by simp)))⟩
set_option maxHeartbeats 4000000 in
theorem r12_step5go {ya : Nat} (hp : P12OK p) (ha : t.at_ < p.path.length) (hn : t.cl.n < p.K) (hf : t.cl.fin = 1) (hai : AInv (p.ct (p.v t.at_)) p.s p.g p.n t.a) (hsp : t.ad.sp ≤ 2000) (hL : t.L.length ≤ 1000000000) (h9 : ¬ (aNext (p.ct (p.v t.at_)) p.s p.g p.n t.a).st = 9) (h : (stars (refO B m t.W t.L :: [Ass.blk y 83 (cs12 p a (((5 : Nat) : Int)) ((t.at_ : Nat)) (pv) (ptr ya) (t.live) (t.err) (t.on) (t.ond)), rP12 p a, rL12 p a, rH12 p a, r11O a.C p.K p.th a.yc t.cl, r6O (p.ct (p.v t.at_)) p.s p.g p.n ya t.ad])).At R w) :
 Calls Tryz.prog 12 #[ptr y, ptr m] w fun e w' => e = .returned (.bool false) ∧ Tr (stars ((refO B m (aNext (p.ct (p.v t.at_)) p.s p.g p.n t.a).W (aNext (p.ct (p.v t.at_)) p.s p.g p.n t.a).L) :: r6O (p.ct (p.v t.at_)) p.s p.g p.n ya (aNext (p.ct (p.v t.at_)) p.s p.g p.n t.a) :: [Ass.blk y 83 (cs12 p a (((5 : Nat) : Int)) ((t.at_ : Nat)) (pv) (ptr ya) (t.live) (t.err) (t.on) (t.ond)), rP12 p a, rL12 p a, rH12 p a, r11O a.C p.K p.th a.yc t.cl])) R w w' := by
 obtain ⟨w0, hw0⟩ : ∃ v, v = w := ⟨_, rfl⟩
 rw [← hw0] at h ⊢
 have HS := hid (show Sx R w0 [refO B m t.W t.L, Ass.blk y 83 (cs12 p a (((5 : Nat) : Int)) ((t.at_ : Nat)) (pv) (ptr ya) (t.live) (t.err) (t.on) (t.ond)), rP12 p a, rL12 p a, rH12 p a, r11O a.C p.K p.th a.yc t.cl, r6O (p.ct (p.v t.at_)) p.s p.g p.n ya t.ad] w0 from Sx.start h)
 clear h hw0
 obtain ⟨x, hx⟩ : ∃ x, x = aNext (p.ct (p.v t.at_)) p.s p.g p.n t.a := ⟨_, rfl⟩
 rw [← hx] at h9 ⊢
 have HXN := hid hx
 clear hx
 have hctb := hp.ct_lt (hp.v1 ha)
 have hq264 := hp.q264
 have hs8 := hp.s8
 have hp1 := hp.p1
 have hk1 := hp.k1
 obtain ⟨ae, hae⟩ : ∃ ae : Int, ae = (if t.cl.fin = 2 then 3 else 0) := ⟨_, rfl⟩
 have HAE := hid hae
 clear hae
 have htk0 := fun w' => ref_Ticket p.tt p.s p.g p.lm p.r p.K (some ⟨a.pb, 0, none⟩) p.P.length a.pc (some ⟨a.lb, 0, none⟩) p.LL.length a.lc (t.cl.n : Int) w' (by omega) (by omega) (by omega) (by omega) (by omega)
 rw [show (p.P.length : Int) * (6 + 2 * (p.s : Int)) + 2 * (t.cl.n : Int) = ((t.tk p : Nat) : Int) from by unfold S12.tk P12.q; push_cast; rfl] at htk0
 have HTK := hid htk0
 clear htk0
 go_enter Tryz.func12, Tryz.ntmps12
 go_upto_region 1 with fail
 apply wp_region_text (WI := fun S wx => Keep0 w0 wx) (by kernel_rfl) (by kernel_rfl)
 case hob =>
  iterate 8
   apply Oblig.cons
   case h =>
    intro S w1 hwi hSi hd hcl
    apply StepOk.intro
    intro K hK
    obtain ⟨_, ⟨hb, _⟩, _⟩ := Sx.get (Sx.pick (Sx.keep HS.out hwi) 1 (by simp))
    have qy := hb.k22
    clear hb
    obtain ⟨_, ⟨hcl, _⟩, _⟩ := Sx.get (Sx.pick (Sx.keep HS.out hwi) 5 (by simp))
    go_simp
    apply hK
    · rfl
    · conv => (lhs; whnf)
    · exact hwi
   simp only [put_lit, put_none]
   try dsimp only [List.set_cons_succ, List.set_cons_zero]
  apply Oblig.cons
  case h =>
   intro S w1 hwi hSi hd hcl
   apply StepOk.intro
   intro K hK
   obtain ⟨_, ⟨hb, _⟩, _⟩ := Sx.get (Sx.pick (Sx.keep HS.out hwi) 1 (by simp))
   have qy := hb.k22
   clear hb
   obtain ⟨_, ⟨hcl, _⟩, _⟩ := Sx.get (Sx.pick (Sx.keep HS.out hwi) 5 (by simp))
   go_simp
   refine (show Calls Tryz.prog 48 _ w1 (Ret (.agg #[i64 ae, i64 (t.cl.n : Int), .bool false, i64 0]) w1) from by have h := r11_Ans t.cl hcl; unfold clAns at h; rw [← HAE.out] at h; exact h).mono ?_
   rintro e w2 ⟨rfl, hk⟩
   apply hK
   · rfl
   · conv => (lhs; whnf)
   · exact Keep0.step hwi hk
  simp only [put_lit, put_none]
  try dsimp only [List.set_cons_succ, List.set_cons_zero]
  apply Oblig.cons
  case h =>
   intro S w1 hwi hSi hd hcl
   apply StepOk.intro
   intro K hK
   obtain ⟨_, ⟨hb, _⟩, _⟩ := Sx.get (Sx.pick (Sx.keep HS.out hwi) 1 (by simp))
   have qy := hb.k22
   clear hb
   obtain ⟨_, ⟨hcl, _⟩, _⟩ := Sx.get (Sx.pick (Sx.keep HS.out hwi) 5 (by simp))
   go_simp
   apply hK
   · rfl
   · conv => (lhs; whnf)
   · exact hwi
  simp only [put_lit, put_none]
  try dsimp only [List.set_cons_succ, List.set_cons_zero]
  apply Oblig.cons
  case h =>
   intro S w1 hwi hSi hd hcl
   apply StepOk.intro
   intro K hK
   go_simp
   refine (HTK.out _).mono ?_
   rintro e w2 ⟨rfl, hk⟩
   apply hK
   · rfl
   · conv => (lhs; whnf)
   · exact Keep0.step hwi hk
  simp only [put_lit, put_none]
  try dsimp only [List.set_cons_succ, List.set_cons_zero]
  apply Oblig.cons
  case h =>
   intro S w1 hwi hSi hd hcl
   apply StepOk.intro
   intro K hK
   obtain ⟨_, ⟨hb, _⟩, _⟩ := Sx.get (Sx.pick (Sx.keep HS.out hwi) 1 (by simp))
   have qy := hb.k22
   clear hb
   obtain ⟨_, ⟨hcl, _⟩, _⟩ := Sx.get (Sx.pick (Sx.keep HS.out hwi) 5 (by simp))
   go_simp
   apply hK
   · rfl
   · conv => (lhs; whnf)
   · exact hwi
  simp only [put_lit, put_none]
  try dsimp only [List.set_cons_succ, List.set_cons_zero]
  exact Oblig.nil
 case h0 =>
  exact (Keep.refl _ _).drew
 case hend =>
  intro S wx hwi hall
  have hkx := hwi
  obtain ⟨w1, hwn⟩ : ∃ v, v = wx := ⟨_, rfl⟩
  rw [← hwn] at hkx ⊢
  have hs := hid (show Sx R w0 [refO B m t.W t.L, Ass.blk y 83 (cs12 p a (((5 : Nat) : Int)) ((t.at_ : Nat)) (pv) (ptr ya) (t.live) (t.err) (t.on) (t.ond)), rP12 p a, rL12 p a, rH12 p a, r11O a.C p.K p.th a.yc t.cl, r6O (p.ct (p.v t.at_)) p.s p.g p.n ya t.ad] w1 from Sx.keep HS.out hkx)
  clear hwi hall hkx hwn HS
  have HS := hs
  clear hs
  obtain ⟨_, ⟨hb, _⟩, _⟩ := Sx.get (show Sx R w0 [Ass.blk y 83 (cs12 p a (((5 : Nat) : Int)) ((t.at_ : Nat)) (pv) (ptr ya) (t.live) (t.err) (t.on) (t.ond)), refO B m t.W t.L, rP12 p a, rL12 p a, rH12 p a, r11O a.C p.K p.th a.yc t.cl, r6O (p.ct (p.v t.at_)) p.s p.g p.n ya t.ad] w1 from (Sx.pick (show Sx R w0 [refO B m t.W t.L, Ass.blk y 83 (cs12 p a (((5 : Nat) : Int)) ((t.at_ : Nat)) (pv) (ptr ya) (t.live) (t.err) (t.on) (t.ond)), rP12 p a, rL12 p a, rH12 p a, r11O a.C p.K p.th a.yc t.cl, r6O (p.ct (p.v t.at_)) p.s p.g p.n ya t.ad] w1 from by repeat (with_reducible first | exact HS.out | apply Sx.alloc | apply Sx.drewN | apply Sx.drew)) 1 (by simp)))
  have qy := hb.k22
  clear hb
  go_wp2_with fail
  refine Calls.mono (Sx.call (q := Ass.star (refO B m x.W x.L) (r6O (p.ct (p.v t.at_)) p.s p.g p.n ya x)) (Sx.pair (show Sx R w0 [refO B m t.W t.L, r6O (p.ct (p.v t.at_)) p.s p.g p.n ya t.ad, Ass.blk y 83 (cs12 p a (((5 : Nat) : Int)) ((t.at_ : Nat)) (pv) (ptr ya) (t.live) (t.err) (t.on) (t.ond)), rP12 p a, rL12 p a, rH12 p a, r11O a.C p.K p.th a.yc t.cl] _ from (Sx.pick (Sx.pick (show Sx R w0 [refO B m t.W t.L, Ass.blk y 83 (cs12 p a (((5 : Nat) : Int)) ((t.at_ : Nat)) (pv) (ptr ya) (t.live) (t.err) (t.on) (t.ond)), rP12 p a, rL12 p a, rH12 p a, r11O a.C p.K p.th a.yc t.cl, r6O (p.ct (p.v t.at_)) p.s p.g p.n ya t.ad] _ from by repeat (with_reducible first | exact HS.out | apply Sx.alloc | apply Sx.drewN | apply Sx.drew)) 6 (by simp)) 1 (by simp)))) (fun Rq hr hz => (show Calls Tryz.prog 60 _ _ (fun e w' => e = .returned (.bool (decide (x.st = 9))) ∧ Tr _ Rq _ w') from by rw [HXN.out]; exact r6O_Step (t := t.a) hr hai (by omega) hsp hL))) ?_
  rintro e w2 ⟨rfl, hs⟩
  clear HS
  have HS := hid (show Sx R w0 [refO B m x.W x.L, r6O (p.ct (p.v t.at_)) p.s p.g p.n ya x, Ass.blk y 83 (cs12 p a (((5 : Nat) : Int)) ((t.at_ : Nat)) (pv) (ptr ya) (t.live) (t.err) (t.on) (t.ond)), rP12 p a, rL12 p a, rH12 p a, r11O a.C p.K p.th a.yc t.cl] w2 from Sx.part hs)
  clear hs
  clear qy
  obtain ⟨_, ⟨hb, _⟩, _⟩ := Sx.get (show Sx R w0 [Ass.blk y 83 (cs12 p a (((5 : Nat) : Int)) ((t.at_ : Nat)) (pv) (ptr ya) (t.live) (t.err) (t.on) (t.ond)), refO B m x.W x.L, r6O (p.ct (p.v t.at_)) p.s p.g p.n ya x, rP12 p a, rL12 p a, rH12 p a, r11O a.C p.K p.th a.yc t.cl] w2 from (Sx.pick (show Sx R w0 [refO B m x.W x.L, r6O (p.ct (p.v t.at_)) p.s p.g p.n ya x, Ass.blk y 83 (cs12 p a (((5 : Nat) : Int)) ((t.at_ : Nat)) (pv) (ptr ya) (t.live) (t.err) (t.on) (t.ond)), rP12 p a, rL12 p a, rH12 p a, r11O a.C p.K p.th a.yc t.cl] w2 from by repeat (with_reducible first | exact HS.out | apply Sx.alloc | apply Sx.drewN | apply Sx.drew)) 2 (by simp)))
  have qy := hb.k22
  clear hb
  have g1 : decide (x.st = 9) = false := by simp [h9]
  rw [g1]
  go_wp2_with fail
  go_ret
  exact ⟨rfl, (show Sx R w0 [refO B m x.W x.L, r6O (p.ct (p.v t.at_)) p.s p.g p.n ya x, Ass.blk y 83 (cs12 p a (((5 : Nat) : Int)) ((t.at_ : Nat)) (pv) (ptr ya) (t.live) (t.err) (t.on) (t.ond)), rP12 p a, rL12 p a, rH12 p a, r11O a.C p.K p.th a.yc t.cl] _ from (Sx.pick (Sx.pick (Sx.pick (Sx.pick (Sx.pick (Sx.pick (Sx.pick (show Sx R w0 [refO B m x.W x.L, r6O (p.ct (p.v t.at_)) p.s p.g p.n ya x, Ass.blk y 83 (cs12 p a (((5 : Nat) : Int)) ((t.at_ : Nat)) (pv) (ptr ya) (t.live) (t.err) (t.on) (t.ond)), rP12 p a, rL12 p a, rH12 p a, r11O a.C p.K p.th a.yc t.cl] _ from by repeat (with_reducible first | exact HS.out | apply Sx.alloc | apply Sx.drewN | apply Sx.drew)) 6 (by simp)) 6 (by simp)) 6 (by simp)) 6 (by simp)) 6 (by simp)) 6 (by simp)) 6 (by simp)))⟩
set_option maxHeartbeats 4000000 in
theorem r12_step5more {ya : Nat} (hp : P12OK p) (ha : t.at_ < p.path.length) (hn : t.cl.n < p.K) (hf : t.cl.fin = 1) (hai : AInv (p.ct (p.v t.at_)) p.s p.g p.n t.a) (hsp : t.ad.sp ≤ 2000) (hL : t.L.length ≤ 1000000000) (h9 : (aNext (p.ct (p.v t.at_)) p.s p.g p.n t.a).st = 9) (hl : t.at_ + 1 < p.path.length) (h : (stars (refO B m t.W t.L :: [Ass.blk y 83 (cs12 p a (((5 : Nat) : Int)) ((t.at_ : Nat)) (pv) (ptr ya) (t.live) (t.err) (t.on) (t.ond)), rP12 p a, rL12 p a, rH12 p a, r11O a.C p.K p.th a.yc t.cl, r6O (p.ct (p.v t.at_)) p.s p.g p.n ya t.ad])).At R w) :
 Calls Tryz.prog 12 #[ptr y, ptr m] w fun e w' => ∃ v : Value, e = .returned (.bool false) ∧ Tr (stars ((refO B m (aNext (p.ct (p.v t.at_)) p.s p.g p.n t.a).W (aNext (p.ct (p.v t.at_)) p.s p.g p.n t.a).L) :: (Ass.ex fun y' : Nat => (r6O (p.ct (p.v (t.at_ + 1))) p.s p.g p.n y' (ad0 p)).with_ (v = ptr y')) :: [Ass.blk y 83 (cs12 p a (((5 : Nat) : Int)) (((t.at_ + 1 : Nat) : Int)) (pv) (v) (t.live) (t.err) (t.on) (t.ond)), rP12 p a, rL12 p a, rH12 p a, r11O a.C p.K p.th a.yc t.cl])) R w w' := by
 obtain ⟨w0, hw0⟩ : ∃ v, v = w := ⟨_, rfl⟩
 rw [← hw0] at h ⊢
 have HS := hid (show Sx R w0 [refO B m t.W t.L, Ass.blk y 83 (cs12 p a (((5 : Nat) : Int)) ((t.at_ : Nat)) (pv) (ptr ya) (t.live) (t.err) (t.on) (t.ond)), rP12 p a, rL12 p a, rH12 p a, r11O a.C p.K p.th a.yc t.cl, r6O (p.ct (p.v t.at_)) p.s p.g p.n ya t.ad] w0 from Sx.start h)
 clear h hw0
 obtain ⟨x, hx⟩ : ∃ x, x = aNext (p.ct (p.v t.at_)) p.s p.g p.n t.a := ⟨_, rfl⟩
 rw [← hx] at h9 ⊢
 have HXN := hid hx
 clear hx
 have hctb := hp.ct_lt (hp.v1 ha)
 have hq264 := hp.q264
 have hs8 := hp.s8
 have hp1 := hp.p1
 have hk1 := hp.k1
 obtain ⟨ae, hae⟩ : ∃ ae : Int, ae = (if t.cl.fin = 2 then 3 else 0) := ⟨_, rfl⟩
 have HAE := hid hae
 clear hae
 have htk0 := fun w' => ref_Ticket p.tt p.s p.g p.lm p.r p.K (some ⟨a.pb, 0, none⟩) p.P.length a.pc (some ⟨a.lb, 0, none⟩) p.LL.length a.lc (t.cl.n : Int) w' (by omega) (by omega) (by omega) (by omega) (by omega)
 rw [show (p.P.length : Int) * (6 + 2 * (p.s : Int)) + 2 * (t.cl.n : Int) = ((t.tk p : Nat) : Int) from by unfold S12.tk P12.q; push_cast; rfl] at htk0
 have HTK := hid htk0
 clear htk0
 go_enter Tryz.func12, Tryz.ntmps12
 go_upto_region 1 with fail
 apply wp_region_text (WI := fun S wx => Keep0 w0 wx) (by kernel_rfl) (by kernel_rfl)
 case hob =>
  iterate 8
   apply Oblig.cons
   case h =>
    intro S w1 hwi hSi hd hcl
    apply StepOk.intro
    intro K hK
    obtain ⟨_, ⟨hb, _⟩, _⟩ := Sx.get (Sx.pick (Sx.keep HS.out hwi) 1 (by simp))
    have qy := hb.k22
    clear hb
    obtain ⟨_, ⟨hcl, _⟩, _⟩ := Sx.get (Sx.pick (Sx.keep HS.out hwi) 5 (by simp))
    go_simp
    apply hK
    · rfl
    · conv => (lhs; whnf)
    · exact hwi
   simp only [put_lit, put_none]
   try dsimp only [List.set_cons_succ, List.set_cons_zero]
  apply Oblig.cons
  case h =>
   intro S w1 hwi hSi hd hcl
   apply StepOk.intro
   intro K hK
   obtain ⟨_, ⟨hb, _⟩, _⟩ := Sx.get (Sx.pick (Sx.keep HS.out hwi) 1 (by simp))
   have qy := hb.k22
   clear hb
   obtain ⟨_, ⟨hcl, _⟩, _⟩ := Sx.get (Sx.pick (Sx.keep HS.out hwi) 5 (by simp))
   go_simp
   refine (show Calls Tryz.prog 48 _ w1 (Ret (.agg #[i64 ae, i64 (t.cl.n : Int), .bool false, i64 0]) w1) from by have h := r11_Ans t.cl hcl; unfold clAns at h; rw [← HAE.out] at h; exact h).mono ?_
   rintro e w2 ⟨rfl, hk⟩
   apply hK
   · rfl
   · conv => (lhs; whnf)
   · exact Keep0.step hwi hk
  simp only [put_lit, put_none]
  try dsimp only [List.set_cons_succ, List.set_cons_zero]
  apply Oblig.cons
  case h =>
   intro S w1 hwi hSi hd hcl
   apply StepOk.intro
   intro K hK
   obtain ⟨_, ⟨hb, _⟩, _⟩ := Sx.get (Sx.pick (Sx.keep HS.out hwi) 1 (by simp))
   have qy := hb.k22
   clear hb
   obtain ⟨_, ⟨hcl, _⟩, _⟩ := Sx.get (Sx.pick (Sx.keep HS.out hwi) 5 (by simp))
   go_simp
   apply hK
   · rfl
   · conv => (lhs; whnf)
   · exact hwi
  simp only [put_lit, put_none]
  try dsimp only [List.set_cons_succ, List.set_cons_zero]
  apply Oblig.cons
  case h =>
   intro S w1 hwi hSi hd hcl
   apply StepOk.intro
   intro K hK
   go_simp
   refine (HTK.out _).mono ?_
   rintro e w2 ⟨rfl, hk⟩
   apply hK
   · rfl
   · conv => (lhs; whnf)
   · exact Keep0.step hwi hk
  simp only [put_lit, put_none]
  try dsimp only [List.set_cons_succ, List.set_cons_zero]
  apply Oblig.cons
  case h =>
   intro S w1 hwi hSi hd hcl
   apply StepOk.intro
   intro K hK
   obtain ⟨_, ⟨hb, _⟩, _⟩ := Sx.get (Sx.pick (Sx.keep HS.out hwi) 1 (by simp))
   have qy := hb.k22
   clear hb
   obtain ⟨_, ⟨hcl, _⟩, _⟩ := Sx.get (Sx.pick (Sx.keep HS.out hwi) 5 (by simp))
   go_simp
   apply hK
   · rfl
   · conv => (lhs; whnf)
   · exact hwi
  simp only [put_lit, put_none]
  try dsimp only [List.set_cons_succ, List.set_cons_zero]
  exact Oblig.nil
 case h0 =>
  exact (Keep.refl _ _).drew
 case hend =>
  intro S wx hwi hall
  have hkx := hwi
  obtain ⟨w1, hwn⟩ : ∃ v, v = wx := ⟨_, rfl⟩
  rw [← hwn] at hkx ⊢
  have hs := hid (show Sx R w0 [refO B m t.W t.L, Ass.blk y 83 (cs12 p a (((5 : Nat) : Int)) ((t.at_ : Nat)) (pv) (ptr ya) (t.live) (t.err) (t.on) (t.ond)), rP12 p a, rL12 p a, rH12 p a, r11O a.C p.K p.th a.yc t.cl, r6O (p.ct (p.v t.at_)) p.s p.g p.n ya t.ad] w1 from Sx.keep HS.out hkx)
  clear hwi hall hkx hwn HS
  have HS := hs
  clear hs
  obtain ⟨_, ⟨hb, _⟩, _⟩ := Sx.get (show Sx R w0 [Ass.blk y 83 (cs12 p a (((5 : Nat) : Int)) ((t.at_ : Nat)) (pv) (ptr ya) (t.live) (t.err) (t.on) (t.ond)), refO B m t.W t.L, rP12 p a, rL12 p a, rH12 p a, r11O a.C p.K p.th a.yc t.cl, r6O (p.ct (p.v t.at_)) p.s p.g p.n ya t.ad] w1 from (Sx.pick (show Sx R w0 [refO B m t.W t.L, Ass.blk y 83 (cs12 p a (((5 : Nat) : Int)) ((t.at_ : Nat)) (pv) (ptr ya) (t.live) (t.err) (t.on) (t.ond)), rP12 p a, rL12 p a, rH12 p a, r11O a.C p.K p.th a.yc t.cl, r6O (p.ct (p.v t.at_)) p.s p.g p.n ya t.ad] w1 from by repeat (with_reducible first | exact HS.out | apply Sx.alloc | apply Sx.drewN | apply Sx.drew)) 1 (by simp)))
  have qy := hb.k22
  clear hb
  go_wp2_with fail
  refine Calls.mono (Sx.call (q := Ass.star (refO B m x.W x.L) (r6O (p.ct (p.v t.at_)) p.s p.g p.n ya x)) (Sx.pair (show Sx R w0 [refO B m t.W t.L, r6O (p.ct (p.v t.at_)) p.s p.g p.n ya t.ad, Ass.blk y 83 (cs12 p a (((5 : Nat) : Int)) ((t.at_ : Nat)) (pv) (ptr ya) (t.live) (t.err) (t.on) (t.ond)), rP12 p a, rL12 p a, rH12 p a, r11O a.C p.K p.th a.yc t.cl] _ from (Sx.pick (Sx.pick (show Sx R w0 [refO B m t.W t.L, Ass.blk y 83 (cs12 p a (((5 : Nat) : Int)) ((t.at_ : Nat)) (pv) (ptr ya) (t.live) (t.err) (t.on) (t.ond)), rP12 p a, rL12 p a, rH12 p a, r11O a.C p.K p.th a.yc t.cl, r6O (p.ct (p.v t.at_)) p.s p.g p.n ya t.ad] _ from by repeat (with_reducible first | exact HS.out | apply Sx.alloc | apply Sx.drewN | apply Sx.drew)) 6 (by simp)) 1 (by simp)))) (fun Rq hr hz => (show Calls Tryz.prog 60 _ _ (fun e w' => e = .returned (.bool (decide (x.st = 9))) ∧ Tr _ Rq _ w') from by rw [HXN.out]; exact r6O_Step (t := t.a) hr hai (by omega) hsp hL))) ?_
  rintro e w2 ⟨rfl, hs⟩
  clear HS
  have HS := hid (show Sx R w0 [refO B m x.W x.L, r6O (p.ct (p.v t.at_)) p.s p.g p.n ya x, Ass.blk y 83 (cs12 p a (((5 : Nat) : Int)) ((t.at_ : Nat)) (pv) (ptr ya) (t.live) (t.err) (t.on) (t.ond)), rP12 p a, rL12 p a, rH12 p a, r11O a.C p.K p.th a.yc t.cl] w2 from Sx.part hs)
  clear hs
  clear qy
  obtain ⟨_, ⟨hb, _⟩, _⟩ := Sx.get (show Sx R w0 [Ass.blk y 83 (cs12 p a (((5 : Nat) : Int)) ((t.at_ : Nat)) (pv) (ptr ya) (t.live) (t.err) (t.on) (t.ond)), refO B m x.W x.L, r6O (p.ct (p.v t.at_)) p.s p.g p.n ya x, rP12 p a, rL12 p a, rH12 p a, r11O a.C p.K p.th a.yc t.cl] w2 from (Sx.pick (show Sx R w0 [refO B m x.W x.L, r6O (p.ct (p.v t.at_)) p.s p.g p.n ya x, Ass.blk y 83 (cs12 p a (((5 : Nat) : Int)) ((t.at_ : Nat)) (pv) (ptr ya) (t.live) (t.err) (t.on) (t.ond)), rP12 p a, rL12 p a, rH12 p a, r11O a.C p.K p.th a.yc t.cl] w2 from by repeat (with_reducible first | exact HS.out | apply Sx.alloc | apply Sx.drewN | apply Sx.drew)) 2 (by simp)))
  have qy := hb.k22
  clear hb
  have g1 : decide (x.st = 9) = true := by simp [h9]
  rw [g1]
  clear g1
  go_wp2_with fail
  have hs := Sx.drop (show Sx R w0 [r6O (p.ct (p.v t.at_)) p.s p.g p.n ya x, refO B m x.W x.L, Ass.blk y 83 (cs12 p a (((5 : Nat) : Int)) ((t.at_ : Nat)) (pv) (ptr ya) (t.live) (t.err) (t.on) (t.ond)), rP12 p a, rL12 p a, rH12 p a, r11O a.C p.K p.th a.yc t.cl] w2 from (Sx.pick (show Sx R w0 [refO B m x.W x.L, r6O (p.ct (p.v t.at_)) p.s p.g p.n ya x, Ass.blk y 83 (cs12 p a (((5 : Nat) : Int)) ((t.at_ : Nat)) (pv) (ptr ya) (t.live) (t.err) (t.on) (t.ond)), rP12 p a, rL12 p a, rH12 p a, r11O a.C p.K p.th a.yc t.cl] w2 from by repeat (with_reducible first | exact HS.out | apply Sx.alloc | apply Sx.drewN | apply Sx.drew)) 1 (by simp)))
  clear HS
  have HS := hid hs
  clear hs
  have hs := hid (show Sx R w0 [Ass.blk y 83 (cs12 p a (((5 : Nat) : Int)) ((t.at_ : Nat)) (pv) (ptr ya) (t.live) (t.err) (t.on) (t.ond)), rP12 p a, rL12 p a, rH12 p a, r11O a.C p.K p.th a.yc t.cl, refO B m x.W x.L] w2 from (Sx.pick (Sx.pick (Sx.pick (Sx.pick (Sx.pick (show Sx R w0 [refO B m x.W x.L, Ass.blk y 83 (cs12 p a (((5 : Nat) : Int)) ((t.at_ : Nat)) (pv) (ptr ya) (t.live) (t.err) (t.on) (t.ond)), rP12 p a, rL12 p a, rH12 p a, r11O a.C p.K p.th a.yc t.cl] w2 from by repeat (with_reducible first | exact HS.out | apply Sx.alloc | apply Sx.drewN | apply Sx.drew)) 5 (by simp)) 5 (by simp)) 5 (by simp)) 5 (by simp)) 5 (by simp)))
  clear HS
  have HS := hs
  clear hs
  refine Calls.mono (Sx.callx (Sx.group [Ass.blk y 83 (cs12 p a (((5 : Nat) : Int)) ((t.at_ : Nat)) (pv) (ptr ya) (t.live) (t.err) (t.on) (t.ond)), rP12 p a, rL12 p a, rH12 p a, r11O a.C p.K p.th a.yc t.cl] (l := [refO B m x.W x.L]) HS.out) (fun Rq hr _ => r12_added_more (t := { t with ph := 5, ad := x }) (pv := pv) (av := ptr ya) hp hl hr)) ?_
  rintro e w3 ⟨v, rfl, hs⟩
  clear HS
  have HS := hid (show Sx R w0 [(Ass.ex fun y' : Nat => (r6O (p.ct (p.v (t.at_ + 1))) p.s p.g p.n y' (ad0 p)).with_ (v = ptr y')), Ass.blk y 83 (cs12 p a (((5 : Nat) : Int)) (((t.at_ + 1 : Nat) : Int)) (pv) (v) (t.live) (t.err) (t.on) (t.ond)), rP12 p a, rL12 p a, rH12 p a, r11O a.C p.K p.th a.yc t.cl, refO B m x.W x.L] w3 from Sx.ungroup _ hs)
  clear hs qy
  obtain ⟨_, ⟨hb, _⟩, _⟩ := Sx.get (show Sx R w0 [Ass.blk y 83 (cs12 p a (((5 : Nat) : Int)) (((t.at_ + 1 : Nat) : Int)) (pv) (v) (t.live) (t.err) (t.on) (t.ond)), (Ass.ex fun y' : Nat => (r6O (p.ct (p.v (t.at_ + 1))) p.s p.g p.n y' (ad0 p)).with_ (v = ptr y')), rP12 p a, rL12 p a, rH12 p a, r11O a.C p.K p.th a.yc t.cl, refO B m x.W x.L] w3 from (Sx.pick (show Sx R w0 [(Ass.ex fun y' : Nat => (r6O (p.ct (p.v (t.at_ + 1))) p.s p.g p.n y' (ad0 p)).with_ (v = ptr y')), Ass.blk y 83 (cs12 p a (((5 : Nat) : Int)) (((t.at_ + 1 : Nat) : Int)) (pv) (v) (t.live) (t.err) (t.on) (t.ond)), rP12 p a, rL12 p a, rH12 p a, r11O a.C p.K p.th a.yc t.cl, refO B m x.W x.L] w3 from by repeat (with_reducible first | exact HS.out | apply Sx.alloc | apply Sx.drewN | apply Sx.drew)) 1 (by simp)))
  have qy := hb.k22
  clear hb
  go_wp2_with fail
  go_ret
  exact ⟨v, rfl, (show Sx R w0 [refO B m x.W x.L, (Ass.ex fun y' : Nat => (r6O (p.ct (p.v (t.at_ + 1))) p.s p.g p.n y' (ad0 p)).with_ (v = ptr y')), Ass.blk y 83 (cs12 p a (((5 : Nat) : Int)) (((t.at_ + 1 : Nat) : Int)) (pv) (v) (t.live) (t.err) (t.on) (t.ond)), rP12 p a, rL12 p a, rH12 p a, r11O a.C p.K p.th a.yc t.cl] _ from (Sx.pick (Sx.pick (Sx.pick (Sx.pick (Sx.pick (Sx.pick (Sx.pick (show Sx R w0 [(Ass.ex fun y' : Nat => (r6O (p.ct (p.v (t.at_ + 1))) p.s p.g p.n y' (ad0 p)).with_ (v = ptr y')), Ass.blk y 83 (cs12 p a (((5 : Nat) : Int)) (((t.at_ + 1 : Nat) : Int)) (pv) (v) (t.live) (t.err) (t.on) (t.ond)), rP12 p a, rL12 p a, rH12 p a, r11O a.C p.K p.th a.yc t.cl, refO B m x.W x.L] _ from by repeat (with_reducible first | exact HS.out | apply Sx.alloc | apply Sx.drewN | apply Sx.drew)) 5 (by simp)) 5 (by simp)) 5 (by simp)) 5 (by simp)) 5 (by simp)) 5 (by simp)) 6 (by simp)))⟩
set_option maxHeartbeats 4000000 in
theorem r12_step5last {ya : Nat} (hp : P12OK p) (ha : t.at_ < p.path.length) (hn : t.cl.n < p.K) (hf : t.cl.fin = 1) (hai : AInv (p.ct (p.v t.at_)) p.s p.g p.n t.a) (hsp : t.ad.sp ≤ 2000) (hL : t.L.length ≤ 1000000000) (h9 : (aNext (p.ct (p.v t.at_)) p.s p.g p.n t.a).st = 9) (hl : t.at_ + 1 = p.path.length) (h : (stars (refO B m t.W t.L :: [Ass.blk y 83 (cs12 p a (((5 : Nat) : Int)) ((t.at_ : Nat)) (pv) (ptr ya) (t.live) (t.err) (t.on) (t.ond)), rP12 p a, rL12 p a, rH12 p a, r11O a.C p.K p.th a.yc t.cl, r6O (p.ct (p.v t.at_)) p.s p.g p.n ya t.ad])).At R w) :
 Calls Tryz.prog 12 #[ptr y, ptr m] w fun e w' => e = .returned (.bool true) ∧ Tr (stars ((refO B m (aNext (p.ct (p.v t.at_)) p.s p.g p.n t.a).W (aNext (p.ct (p.v t.at_)) p.s p.g p.n t.a).L) :: [Ass.blk y 83 (cs12 p a (6) (((t.at_ + 1 : Nat) : Int)) (pv) (ptr ya) (t.live) (0) (hd16 t.cl.n t.live) (0)), rP12 p a, rL12 p a, rH12 p a, r11O a.C p.K p.th a.yc t.cl])) R w w' := by
 obtain ⟨w0, hw0⟩ : ∃ v, v = w := ⟨_, rfl⟩
 rw [← hw0] at h ⊢
 have HS := hid (show Sx R w0 [refO B m t.W t.L, Ass.blk y 83 (cs12 p a (((5 : Nat) : Int)) ((t.at_ : Nat)) (pv) (ptr ya) (t.live) (t.err) (t.on) (t.ond)), rP12 p a, rL12 p a, rH12 p a, r11O a.C p.K p.th a.yc t.cl, r6O (p.ct (p.v t.at_)) p.s p.g p.n ya t.ad] w0 from Sx.start h)
 clear h hw0
 obtain ⟨x, hx⟩ : ∃ x, x = aNext (p.ct (p.v t.at_)) p.s p.g p.n t.a := ⟨_, rfl⟩
 rw [← hx] at h9 ⊢
 have HXN := hid hx
 clear hx
 have hctb := hp.ct_lt (hp.v1 ha)
 have hq264 := hp.q264
 have hs8 := hp.s8
 have hp1 := hp.p1
 have hk1 := hp.k1
 obtain ⟨ae, hae⟩ : ∃ ae : Int, ae = (if t.cl.fin = 2 then 3 else 0) := ⟨_, rfl⟩
 have HAE := hid hae
 clear hae
 have htk0 := fun w' => ref_Ticket p.tt p.s p.g p.lm p.r p.K (some ⟨a.pb, 0, none⟩) p.P.length a.pc (some ⟨a.lb, 0, none⟩) p.LL.length a.lc (t.cl.n : Int) w' (by omega) (by omega) (by omega) (by omega) (by omega)
 rw [show (p.P.length : Int) * (6 + 2 * (p.s : Int)) + 2 * (t.cl.n : Int) = ((t.tk p : Nat) : Int) from by unfold S12.tk P12.q; push_cast; rfl] at htk0
 have HTK := hid htk0
 clear htk0
 go_enter Tryz.func12, Tryz.ntmps12
 go_upto_region 1 with fail
 apply wp_region_text (WI := fun S wx => Keep0 w0 wx) (by kernel_rfl) (by kernel_rfl)
 case hob =>
  iterate 8
   apply Oblig.cons
   case h =>
    intro S w1 hwi hSi hd hcl
    apply StepOk.intro
    intro K hK
    obtain ⟨_, ⟨hb, _⟩, _⟩ := Sx.get (Sx.pick (Sx.keep HS.out hwi) 1 (by simp))
    have qy := hb.k22
    clear hb
    obtain ⟨_, ⟨hcl, _⟩, _⟩ := Sx.get (Sx.pick (Sx.keep HS.out hwi) 5 (by simp))
    go_simp
    apply hK
    · rfl
    · conv => (lhs; whnf)
    · exact hwi
   simp only [put_lit, put_none]
   try dsimp only [List.set_cons_succ, List.set_cons_zero]
  apply Oblig.cons
  case h =>
   intro S w1 hwi hSi hd hcl
   apply StepOk.intro
   intro K hK
   obtain ⟨_, ⟨hb, _⟩, _⟩ := Sx.get (Sx.pick (Sx.keep HS.out hwi) 1 (by simp))
   have qy := hb.k22
   clear hb
   obtain ⟨_, ⟨hcl, _⟩, _⟩ := Sx.get (Sx.pick (Sx.keep HS.out hwi) 5 (by simp))
   go_simp
   refine (show Calls Tryz.prog 48 _ w1 (Ret (.agg #[i64 ae, i64 (t.cl.n : Int), .bool false, i64 0]) w1) from by have h := r11_Ans t.cl hcl; unfold clAns at h; rw [← HAE.out] at h; exact h).mono ?_
   rintro e w2 ⟨rfl, hk⟩
   apply hK
   · rfl
   · conv => (lhs; whnf)
   · exact Keep0.step hwi hk
  simp only [put_lit, put_none]
  try dsimp only [List.set_cons_succ, List.set_cons_zero]
  apply Oblig.cons
  case h =>
   intro S w1 hwi hSi hd hcl
   apply StepOk.intro
   intro K hK
   obtain ⟨_, ⟨hb, _⟩, _⟩ := Sx.get (Sx.pick (Sx.keep HS.out hwi) 1 (by simp))
   have qy := hb.k22
   clear hb
   obtain ⟨_, ⟨hcl, _⟩, _⟩ := Sx.get (Sx.pick (Sx.keep HS.out hwi) 5 (by simp))
   go_simp
   apply hK
   · rfl
   · conv => (lhs; whnf)
   · exact hwi
  simp only [put_lit, put_none]
  try dsimp only [List.set_cons_succ, List.set_cons_zero]
  apply Oblig.cons
  case h =>
   intro S w1 hwi hSi hd hcl
   apply StepOk.intro
   intro K hK
   go_simp
   refine (HTK.out _).mono ?_
   rintro e w2 ⟨rfl, hk⟩
   apply hK
   · rfl
   · conv => (lhs; whnf)
   · exact Keep0.step hwi hk
  simp only [put_lit, put_none]
  try dsimp only [List.set_cons_succ, List.set_cons_zero]
  apply Oblig.cons
  case h =>
   intro S w1 hwi hSi hd hcl
   apply StepOk.intro
   intro K hK
   obtain ⟨_, ⟨hb, _⟩, _⟩ := Sx.get (Sx.pick (Sx.keep HS.out hwi) 1 (by simp))
   have qy := hb.k22
   clear hb
   obtain ⟨_, ⟨hcl, _⟩, _⟩ := Sx.get (Sx.pick (Sx.keep HS.out hwi) 5 (by simp))
   go_simp
   apply hK
   · rfl
   · conv => (lhs; whnf)
   · exact hwi
  simp only [put_lit, put_none]
  try dsimp only [List.set_cons_succ, List.set_cons_zero]
  exact Oblig.nil
 case h0 =>
  exact (Keep.refl _ _).drew
 case hend =>
  intro S wx hwi hall
  have hkx := hwi
  obtain ⟨w1, hwn⟩ : ∃ v, v = wx := ⟨_, rfl⟩
  rw [← hwn] at hkx ⊢
  have hs := hid (show Sx R w0 [refO B m t.W t.L, Ass.blk y 83 (cs12 p a (((5 : Nat) : Int)) ((t.at_ : Nat)) (pv) (ptr ya) (t.live) (t.err) (t.on) (t.ond)), rP12 p a, rL12 p a, rH12 p a, r11O a.C p.K p.th a.yc t.cl, r6O (p.ct (p.v t.at_)) p.s p.g p.n ya t.ad] w1 from Sx.keep HS.out hkx)
  clear hwi hall hkx hwn HS
  have HS := hs
  clear hs
  obtain ⟨_, ⟨hb, _⟩, _⟩ := Sx.get (show Sx R w0 [Ass.blk y 83 (cs12 p a (((5 : Nat) : Int)) ((t.at_ : Nat)) (pv) (ptr ya) (t.live) (t.err) (t.on) (t.ond)), refO B m t.W t.L, rP12 p a, rL12 p a, rH12 p a, r11O a.C p.K p.th a.yc t.cl, r6O (p.ct (p.v t.at_)) p.s p.g p.n ya t.ad] w1 from (Sx.pick (show Sx R w0 [refO B m t.W t.L, Ass.blk y 83 (cs12 p a (((5 : Nat) : Int)) ((t.at_ : Nat)) (pv) (ptr ya) (t.live) (t.err) (t.on) (t.ond)), rP12 p a, rL12 p a, rH12 p a, r11O a.C p.K p.th a.yc t.cl, r6O (p.ct (p.v t.at_)) p.s p.g p.n ya t.ad] w1 from by repeat (with_reducible first | exact HS.out | apply Sx.alloc | apply Sx.drewN | apply Sx.drew)) 1 (by simp)))
  have qy := hb.k22
  clear hb
  go_wp2_with fail
  refine Calls.mono (Sx.call (q := Ass.star (refO B m x.W x.L) (r6O (p.ct (p.v t.at_)) p.s p.g p.n ya x)) (Sx.pair (show Sx R w0 [refO B m t.W t.L, r6O (p.ct (p.v t.at_)) p.s p.g p.n ya t.ad, Ass.blk y 83 (cs12 p a (((5 : Nat) : Int)) ((t.at_ : Nat)) (pv) (ptr ya) (t.live) (t.err) (t.on) (t.ond)), rP12 p a, rL12 p a, rH12 p a, r11O a.C p.K p.th a.yc t.cl] _ from (Sx.pick (Sx.pick (show Sx R w0 [refO B m t.W t.L, Ass.blk y 83 (cs12 p a (((5 : Nat) : Int)) ((t.at_ : Nat)) (pv) (ptr ya) (t.live) (t.err) (t.on) (t.ond)), rP12 p a, rL12 p a, rH12 p a, r11O a.C p.K p.th a.yc t.cl, r6O (p.ct (p.v t.at_)) p.s p.g p.n ya t.ad] _ from by repeat (with_reducible first | exact HS.out | apply Sx.alloc | apply Sx.drewN | apply Sx.drew)) 6 (by simp)) 1 (by simp)))) (fun Rq hr hz => (show Calls Tryz.prog 60 _ _ (fun e w' => e = .returned (.bool (decide (x.st = 9))) ∧ Tr _ Rq _ w') from by rw [HXN.out]; exact r6O_Step (t := t.a) hr hai (by omega) hsp hL))) ?_
  rintro e w2 ⟨rfl, hs⟩
  clear HS
  have HS := hid (show Sx R w0 [refO B m x.W x.L, r6O (p.ct (p.v t.at_)) p.s p.g p.n ya x, Ass.blk y 83 (cs12 p a (((5 : Nat) : Int)) ((t.at_ : Nat)) (pv) (ptr ya) (t.live) (t.err) (t.on) (t.ond)), rP12 p a, rL12 p a, rH12 p a, r11O a.C p.K p.th a.yc t.cl] w2 from Sx.part hs)
  clear hs
  clear qy
  obtain ⟨_, ⟨hb, _⟩, _⟩ := Sx.get (show Sx R w0 [Ass.blk y 83 (cs12 p a (((5 : Nat) : Int)) ((t.at_ : Nat)) (pv) (ptr ya) (t.live) (t.err) (t.on) (t.ond)), refO B m x.W x.L, r6O (p.ct (p.v t.at_)) p.s p.g p.n ya x, rP12 p a, rL12 p a, rH12 p a, r11O a.C p.K p.th a.yc t.cl] w2 from (Sx.pick (show Sx R w0 [refO B m x.W x.L, r6O (p.ct (p.v t.at_)) p.s p.g p.n ya x, Ass.blk y 83 (cs12 p a (((5 : Nat) : Int)) ((t.at_ : Nat)) (pv) (ptr ya) (t.live) (t.err) (t.on) (t.ond)), rP12 p a, rL12 p a, rH12 p a, r11O a.C p.K p.th a.yc t.cl] w2 from by repeat (with_reducible first | exact HS.out | apply Sx.alloc | apply Sx.drewN | apply Sx.drew)) 2 (by simp)))
  have qy := hb.k22
  clear hb
  have g1 : decide (x.st = 9) = true := by simp [h9]
  rw [g1]
  clear g1
  go_wp2_with fail
  have hs := Sx.drop (show Sx R w0 [r6O (p.ct (p.v t.at_)) p.s p.g p.n ya x, refO B m x.W x.L, Ass.blk y 83 (cs12 p a (((5 : Nat) : Int)) ((t.at_ : Nat)) (pv) (ptr ya) (t.live) (t.err) (t.on) (t.ond)), rP12 p a, rL12 p a, rH12 p a, r11O a.C p.K p.th a.yc t.cl] w2 from (Sx.pick (show Sx R w0 [refO B m x.W x.L, r6O (p.ct (p.v t.at_)) p.s p.g p.n ya x, Ass.blk y 83 (cs12 p a (((5 : Nat) : Int)) ((t.at_ : Nat)) (pv) (ptr ya) (t.live) (t.err) (t.on) (t.ond)), rP12 p a, rL12 p a, rH12 p a, r11O a.C p.K p.th a.yc t.cl] w2 from by repeat (with_reducible first | exact HS.out | apply Sx.alloc | apply Sx.drewN | apply Sx.drew)) 1 (by simp)))
  clear HS
  have HS := hid hs
  clear hs
  have hs := hid (show Sx R w0 [Ass.blk y 83 (cs12 p a (((5 : Nat) : Int)) ((t.at_ : Nat)) (pv) (ptr ya) (t.live) (t.err) (t.on) (t.ond)), rP12 p a, rL12 p a, rH12 p a, r11O a.C p.K p.th a.yc t.cl, refO B m x.W x.L] w2 from (Sx.pick (Sx.pick (Sx.pick (Sx.pick (Sx.pick (show Sx R w0 [refO B m x.W x.L, Ass.blk y 83 (cs12 p a (((5 : Nat) : Int)) ((t.at_ : Nat)) (pv) (ptr ya) (t.live) (t.err) (t.on) (t.ond)), rP12 p a, rL12 p a, rH12 p a, r11O a.C p.K p.th a.yc t.cl] w2 from by repeat (with_reducible first | exact HS.out | apply Sx.alloc | apply Sx.drewN | apply Sx.drew)) 5 (by simp)) 5 (by simp)) 5 (by simp)) 5 (by simp)) 5 (by simp)))
  clear HS
  have HS := hs
  clear hs
  refine Calls.mono (Sx.call (Sx.group [Ass.blk y 83 (cs12 p a (((5 : Nat) : Int)) ((t.at_ : Nat)) (pv) (ptr ya) (t.live) (t.err) (t.on) (t.ond)), rP12 p a, rL12 p a, rH12 p a, r11O a.C p.K p.th a.yc t.cl] (l := [refO B m x.W x.L]) HS.out) (fun Rq hr _ => r12_added_last (t := { t with ph := 5, ad := x }) (pv := pv) (av := ptr ya) hp hl hf (by show t.cl.n < 16; omega) hr)) ?_
  rintro e w3 ⟨rfl, hs⟩
  clear HS
  have HS := hid (show Sx R w0 [Ass.blk y 83 (cs12 p a (6) (((t.at_ + 1 : Nat) : Int)) (pv) (ptr ya) (t.live) (0) (hd16 t.cl.n t.live) (0)), rP12 p a, rL12 p a, rH12 p a, r11O a.C p.K p.th a.yc t.cl, refO B m x.W x.L] w3 from Sx.ungroup _ hs)
  clear hs qy
  obtain ⟨_, ⟨hb, _⟩, _⟩ := Sx.get (show Sx R w0 [Ass.blk y 83 (cs12 p a (6) (((t.at_ + 1 : Nat) : Int)) (pv) (ptr ya) (t.live) (0) (hd16 t.cl.n t.live) (0)), rP12 p a, rL12 p a, rH12 p a, r11O a.C p.K p.th a.yc t.cl, refO B m x.W x.L] w3 from (show Sx R w0 [Ass.blk y 83 (cs12 p a (6) (((t.at_ + 1 : Nat) : Int)) (pv) (ptr ya) (t.live) (0) (hd16 t.cl.n t.live) (0)), rP12 p a, rL12 p a, rH12 p a, r11O a.C p.K p.th a.yc t.cl, refO B m x.W x.L] w3 from by repeat (with_reducible first | exact HS.out | apply Sx.alloc | apply Sx.drewN | apply Sx.drew)))
  have qy := hb.k22
  clear hb
  go_wp2_with fail
  go_ret
  exact ⟨rfl, (show Sx R w0 [refO B m x.W x.L, Ass.blk y 83 (cs12 p a (6) (((t.at_ + 1 : Nat) : Int)) (pv) (ptr ya) (t.live) (0) (hd16 t.cl.n t.live) (0)), rP12 p a, rL12 p a, rH12 p a, r11O a.C p.K p.th a.yc t.cl] _ from (Sx.pick (Sx.pick (Sx.pick (Sx.pick (Sx.pick (Sx.pick (show Sx R w0 [Ass.blk y 83 (cs12 p a (6) (((t.at_ + 1 : Nat) : Int)) (pv) (ptr ya) (t.live) (0) (hd16 t.cl.n t.live) (0)), rP12 p a, rL12 p a, rH12 p a, r11O a.C p.K p.th a.yc t.cl, refO B m x.W x.L] _ from by repeat (with_reducible first | exact HS.out | apply Sx.alloc | apply Sx.drewN | apply Sx.drew)) 4 (by simp)) 4 (by simp)) 4 (by simp)) 4 (by simp)) 4 (by simp)) 5 (by simp)))⟩
end
end Go.Proofs.YthaceckccobgeaaGreat

namespace Go.Proofs.YthaceckccobgeaaGreat
open Go.RowKit
set_option linter.unusedVariables false
set_option linter.unusedSimpArgs false
set_option maxRecDepth 100000
def ex12 (p : P12) (t : S12) (pv av : Value) : List Ass := if t.ph = 1 then [(Ass.ex fun y' : Nat => (r8A p.s p.lm p.K (p.v (t.at_)) p.n p.u y' (t.po)).with_ (pv = ptr y'))] else if t.ph = 5 then [(Ass.ex fun y' : Nat => (r6O (p.ct (p.v (t.at_))) p.s p.g p.n y' (t.ad)).with_ (av = ptr y'))] else []
def r12O (p : P12) (y : Nat) (t : S12) : Ass := Ass.ex fun a : Ad12 => Ass.ex fun pv : Value => Ass.ex fun av : Value => (stars (ex12 p t pv av ++ [Ass.blk y 83 (cs12 p a ((t.ph : Nat)) ((t.at_ : Nat)) (pv) (av) (t.live) (t.err) (t.on) (t.ond)), rP12 p a, rL12 p a, rH12 p a, r11O a.C p.K p.th a.yc t.cl])).with_ (COk a.C p.K p.q p.K)
section
variable {B m y : Nat} {p : P12} {R : Nat → Prop} {w w' : World} {X : Int}
theorem fold12 {u : S12} {a : Ad12} {pv av : Value} {l : List Ass} {W : List Int} {L : List Acc} (hex : ex12 p u pv av = l) (hW : u.W = W) (hL : u.L = L) (h : Tr (stars (refO B m W L :: (l ++ [Ass.blk y 83 (cs12 p a ((u.ph : Nat)) ((u.at_ : Nat)) (pv) (av) (u.live) (u.err) (u.on) (u.ond)), rP12 p a, rL12 p a, rH12 p a, r11O a.C p.K p.th a.yc u.cl]))) R w w') (hco : COk a.C p.K p.q p.K) :
 Tr ((refO B m u.W u.L).star (r12O p y u)) R w w' := by
 subst hex hW hL
 exact h.mono (fun V hv => star_mono_r hv (fun U hu => ⟨a, pv, av, hu, hco⟩))
set_option maxHeartbeats 4000000 in
theorem r12_Step {t : S12} (hp : P12OK p) (hi : I12 p X t) (hX : X ≤ 4398046511104) (hL : t.L.length ≤ 1000000000) (h : ((refO B m t.W t.L).star (r12O p y t)).At R w) :
 Calls Tryz.prog 12 #[ptr y, ptr m] w fun e w' => e = .returned (.bool (stp12 p t).2) ∧ Tr ((refO B m (n12 p t).W (n12 p t).L).star (r12O p y (n12 p t))) R w w' := by
 show Calls _ _ _ _ (fun e w' => e = .returned (.bool (decide ((n12 p t).ph = 6))) ∧ _)
 obtain ⟨W, L, ph, at_, cl, po, ad, live, err, on, ond⟩ := t
 obtain ⟨Rm, Ry, hm, ⟨a, pv, av, hs, hco⟩, hd, eU⟩ := h
 have h0 := (show (stars (refO B m W L :: (ex12 p ⟨W, L, ph, at_, cl, po, ad, live, err, on, ond⟩ pv av ++ [Ass.blk y 83 (cs12 p a (((S12.mk W L ph at_ cl po ad live err on ond).ph : Nat)) (((S12.mk W L ph at_ cl po ad live err on ond).at_ : Nat)) (pv) (av) ((S12.mk W L ph at_ cl po ad live err on ond).live) ((S12.mk W L ph at_ cl po ad live err on ond).err) ((S12.mk W L ph at_ cl po ad live err on ond).on) ((S12.mk W L ph at_ cl po ad live err on ond).ond)), rP12 p a, rL12 p a, rH12 p a, r11O a.C p.K p.th a.yc cl]))).At R w from ⟨Rm, Ry, hm, hs, hd, eU⟩)
 clear hm hs hd eU
 have hph := hi.ph
 have hq := hp.q264
 have hk := hp.k1
 have hh1 := hp.h1
 have hcn : cl.n < p.K := hi.cn
 have hln : W.length = p.q + 2 * p.K := hi.w.ln
 have hc7 : ph = 0 ∨ ph = 1 ∨ ph = 2 ∨ ph = 3 ∨ ph = 4 ∨ ph = 5 ∨ ph = 6 := by have : ph ≤ 6 := hph; omega
 rcases hc7 with rfl | rfl | rfl | rfl | rfl | rfl | rfl
 · obtain ⟨hci, hfin, hat⟩ := hi.ci rfl
   obtain ⟨he, hod⟩ := hi.z (by simp) (by simp)
   have hon := hi.z2 (by simp)
   simp only at hfin hat he hod hon
   subst hat he hod hon
   have hs := hci.step (s := p.th)
   rw [n12_0 rfl]
   have hfb := hs.fb
   have hf3 : (cNext p.K p.th p.q (S12.mk W L 0 0 cl po ad live 0 0 0).c).fin = 0 ∨ (cNext p.K p.th p.q (S12.mk W L 0 0 cl po ad live 0 0 0).c).fin = 1 ∨ (cNext p.K p.th p.q (S12.mk W L 0 0 cl po ad live 0 0 0).c).fin = 2 := by omega
   rcases hf3 with h3 | h3 | h3
   · refine (r12_step0go (t := S12.mk W L 0 0 cl po ad live 0 0 0) hp (by show 0 < _; omega) hcn hci hco hp.t1 hL h3 h0).mono ?_
     rintro e w' ⟨rfl, ht⟩
     unfold claimed12
     rw [if_pos h3]
     exact ⟨rfl, fold12 (l := []) rfl rfl rfl ht hco⟩
   · refine (r12_step0yes (t := S12.mk W L 0 0 cl po ad live 0 0 0) hp (by show 0 < _; omega) hcn hci hco hp.t1 hL h3 h0).mono ?_
     rintro e w' ⟨v, rfl, ht⟩
     unfold claimed12
     rw [if_neg (by simp only; omega), if_neg (by simp only; omega)]
     exact ⟨rfl, fold12 (l := [(Ass.ex fun y' : Nat => (r8A p.s p.lm p.K (p.v (0)) p.n p.u y' (po0)).with_ (v = ptr y'))]) rfl rfl rfl ht hco⟩
   · refine (r12_step0no (t := S12.mk W L 0 0 cl po ad live 0 0 0) hp (by show 0 < _; omega) hcn hci hco hp.t1 hL h3 (hs.z2 h3).2 h0).mono ?_
     rintro e w' ⟨rfl, ht⟩
     unfold claimed12
     rw [if_neg (by simp only; omega), if_pos h3]
     exact ⟨rfl, fold12 (l := []) rfl rfl rfl ht hco⟩
 · obtain ⟨ha, hpi, h7⟩ := hi.pi rfl
   obtain ⟨he, hod⟩ := hi.z (by simp) (by simp)
   have hon := hi.z2 (by simp)
   simp only at ha he hod hon
   subst he hod hon
   have hs := hpi.step
   have hsx := hs.nx
   obtain ⟨R1, R2, h1, ⟨R3, R4, ⟨yp, h3, rfl⟩, h4, h5, h6⟩, h7', h8⟩ := h0
   have h0 := stars_perm (List.Perm.cons (refO B m W L) (List.perm_append_comm (l₁ := [r8A p.s p.lm p.K (p.v at_) p.n p.u yp po]) (l₂ := [Ass.blk y 83 (cs12 p a (((S12.mk W L 1 at_ cl po ad live 0 0 0).ph : Nat)) (((S12.mk W L 1 at_ cl po ad live 0 0 0).at_ : Nat)) (ptr yp) (av) ((S12.mk W L 1 at_ cl po ad live 0 0 0).live) ((S12.mk W L 1 at_ cl po ad live 0 0 0).err) ((S12.mk W L 1 at_ cl po ad live 0 0 0).on) ((S12.mk W L 1 at_ cl po ad live 0 0 0).ond)), rP12 p a, rL12 p a, rH12 p a, r11O a.C p.K p.th a.yc cl]))) R (show (stars (refO B m W L :: r8A p.s p.lm p.K (p.v at_) p.n p.u yp po :: [Ass.blk y 83 (cs12 p a (((S12.mk W L 1 at_ cl po ad live 0 0 0).ph : Nat)) (((S12.mk W L 1 at_ cl po ad live 0 0 0).at_ : Nat)) (ptr yp) (av) ((S12.mk W L 1 at_ cl po ad live 0 0 0).live) ((S12.mk W L 1 at_ cl po ad live 0 0 0).err) ((S12.mk W L 1 at_ cl po ad live 0 0 0).on) ((S12.mk W L 1 at_ cl po ad live 0 0 0).ond)), rP12 p a, rL12 p a, rH12 p a, r11O a.C p.K p.th a.yc cl])).At R w from ⟨R1, R2, h1, ⟨R3, R4, h3, h4, h5, h6⟩, h7', h8⟩)
   rw [n12_1 rfl]
   have hW4 : W.length ≤ 1000000 := by omega
   by_cases h77 : (pNext (p.av (p.v at_)) (p.le (p.v at_) p.u) p.n p.lm (S12.mk W L 1 at_ cl po ad live 0 0 0).pl).next = 7
   · cases hb : (pNext (p.av (p.v at_)) (p.le (p.v at_) p.u) p.n p.lm (S12.mk W L 1 at_ cl po ad live 0 0 0).pl).bad with
     | true =>
      refine (r12_step1bad (t := S12.mk W L 1 at_ cl po ad live 0 0 0) hp ha hcn hpi hX hW4 hL h77 hb h0).mono ?_
      rintro e w' ⟨rfl, ht⟩
      unfold pooled12
      rw [if_neg (fun h => h h77), if_pos hb]
      exact ⟨rfl, fold12 (l := []) rfl rfl rfl ht hco⟩
     | false =>
      by_cases hl : at_ + 1 = p.path.length
      · refine (r12_step1last (t := S12.mk W L 1 at_ cl po ad live 0 0 0) hp ha hcn hpi hX hW4 hL h77 hb hl h0).mono ?_
        rintro e w' ⟨rfl, ht⟩
        unfold pooled12
        rw [if_neg (fun h => h h77), if_neg (by simp only; rw [hb]; decide), if_pos hl]
        exact ⟨rfl, fold12 (l := []) rfl rfl rfl ht hco⟩
      · refine (r12_step1next (t := S12.mk W L 1 at_ cl po ad live 0 0 0) hp ha hcn hpi hX hW4 hL h77 hb (by show at_ + 1 < _; omega) h0).mono ?_
        rintro e w' ⟨v, rfl, ht⟩
        unfold pooled12
        rw [if_neg (fun h => h h77), if_neg (by simp only; rw [hb]; decide), if_neg hl]
        exact ⟨rfl, fold12 (l := [(Ass.ex fun y' : Nat => (r8A p.s p.lm p.K (p.v (at_ + 1)) p.n p.u y' (po0)).with_ (v = ptr y'))]) rfl rfl rfl ht hco⟩
   · refine (r12_step1go (t := S12.mk W L 1 at_ cl po ad live 0 0 0) hp ha hcn hpi hX hW4 hL h77 h0).mono ?_
     rintro e w' ⟨rfl, ht⟩
     unfold pooled12
     rw [if_pos h77]
     refine ⟨rfl, fold12 (pv := ptr yp) (l := [(Ass.ex fun y' : Nat => (r8A p.s p.lm p.K (p.v (at_)) p.n p.u y' (pNext (p.av (p.v at_)) (p.le (p.v at_) p.u) p.n p.lm (S12.mk W L 1 at_ cl po ad live 0 0 0).pl)).with_ (ptr yp = ptr y'))]) rfl rfl rfl (ht.mono (fun V hv => star_mono_r hv (fun V2 h2 => star_mono_l h2 (fun V3 h3 => ⟨yp, h3, rfl⟩)))) hco⟩
 · have hon := hi.z2 (by simp)
   simp only at hon
   subst hon
   have hat : at_ ≤ p.path.length := hi.at_
   by_cases h00 : 0 < at_
   · rw [n12_2 rfl h00]
     refine (r12_step2 (t := S12.mk W L 2 at_ cl po ad live err 0 ond) hp hcn h00 hat (by show W.length ≤ 10000; omega) (by show _ ≤ W.length; omega) hL h0).mono ?_
     rintro e w' ⟨rfl, ht⟩
     exact ⟨rfl, fold12 (l := []) rfl rfl rfl ht hco⟩
   · obtain rfl : at_ = 0 := by omega
     rw [n12_2z rfl h00]
     refine (r12_step2z (t := S12.mk W L 2 0 cl po ad live err 0 ond) hp hcn (by show p.q + 2 * cl.n < W.length; omega) (by show W.length ≤ 10000; omega) hL h0).mono ?_
     rintro e w' ⟨rfl, ht⟩
     exact ⟨rfl, fold12 (l := []) rfl rfl rfl ht hco⟩
 · rw [n12_3 rfl]
   refine (r12_step3 (t := S12.mk W L 3 at_ cl po ad live err on ond) hp (hi.f (by simp) (by simp)) hcn (by show p.q + 2 * cl.n + 2 ≤ W.length; omega) (by show W.length ≤ 10000; omega) hL h0).mono ?_
   rintro e w' ⟨rfl, ht⟩
   exact ⟨rfl, fold12 (l := []) rfl rfl rfl ht hco⟩
 · rw [n12_4 rfl]
   refine (r12_step4 (t := S12.mk W L 4 at_ cl po ad live err on ond) hp hcn (by show p.q + 2 * cl.n < W.length; omega) (by show W.length ≤ 10000; omega) hL h0).mono ?_
   rintro e w' ⟨v, rfl, ht⟩
   exact ⟨rfl, fold12 (l := [(Ass.ex fun y' : Nat => (r6O (p.ct (p.v (0))) p.s p.g p.n y' (ad0 p)).with_ (v = ptr y'))]) rfl rfl rfl ht hco⟩
 · obtain ⟨ha, hai, h9, hsp⟩ := hi.ai rfl
   obtain ⟨he, hod⟩ := hi.z (by simp) (by simp)
   have hon := hi.z2 (by simp)
   have hf := hi.f (by simp) (by simp)
   simp only at ha he hod hon
   subst he hod hon
   obtain ⟨R1, R2, h1, ⟨R3, R4, ⟨ya, h3, rfl⟩, h4, h5, h6⟩, h7', h8⟩ := h0
   have h0 := stars_perm (List.Perm.cons (refO B m W L) (List.perm_append_comm (l₁ := [r6O (p.ct (p.v at_)) p.s p.g p.n ya ad]) (l₂ := [Ass.blk y 83 (cs12 p a (((S12.mk W L 5 at_ cl po ad live 0 0 0).ph : Nat)) (((S12.mk W L 5 at_ cl po ad live 0 0 0).at_ : Nat)) (pv) (ptr ya) ((S12.mk W L 5 at_ cl po ad live 0 0 0).live) ((S12.mk W L 5 at_ cl po ad live 0 0 0).err) ((S12.mk W L 5 at_ cl po ad live 0 0 0).on) ((S12.mk W L 5 at_ cl po ad live 0 0 0).ond)), rP12 p a, rL12 p a, rH12 p a, r11O a.C p.K p.th a.yc cl]))) R (show (stars (refO B m W L :: r6O (p.ct (p.v at_)) p.s p.g p.n ya ad :: [Ass.blk y 83 (cs12 p a (((S12.mk W L 5 at_ cl po ad live 0 0 0).ph : Nat)) (((S12.mk W L 5 at_ cl po ad live 0 0 0).at_ : Nat)) (pv) (ptr ya) ((S12.mk W L 5 at_ cl po ad live 0 0 0).live) ((S12.mk W L 5 at_ cl po ad live 0 0 0).err) ((S12.mk W L 5 at_ cl po ad live 0 0 0).on) ((S12.mk W L 5 at_ cl po ad live 0 0 0).ond)), rP12 p a, rL12 p a, rH12 p a, r11O a.C p.K p.th a.yc cl])).At R w from ⟨R1, R2, h1, ⟨R3, R4, h3, h4, h5, h6⟩, h7', h8⟩)
   rw [n12_5 rfl]
   by_cases h99 : (aNext (p.ct (p.v at_)) p.s p.g p.n (S12.mk W L 5 at_ cl po ad live 0 0 0).a).st = 9
   · by_cases hl : at_ + 1 < p.path.length
     · refine (r12_step5more (t := S12.mk W L 5 at_ cl po ad live 0 0 0) hp ha hcn hf hai hsp hL h99 hl h0).mono ?_
       rintro e w' ⟨v, rfl, ht⟩
       unfold added12
       rw [if_neg (fun h => h h99), if_pos hl]
       exact ⟨rfl, fold12 (l := [(Ass.ex fun y' : Nat => (r6O (p.ct (p.v (at_ + 1))) p.s p.g p.n y' (ad0 p)).with_ (v = ptr y'))]) rfl rfl rfl ht hco⟩
     · refine (r12_step5last (t := S12.mk W L 5 at_ cl po ad live 0 0 0) hp ha hcn hf hai hsp hL h99 (by show at_ + 1 = _; omega) h0).mono ?_
       rintro e w' ⟨rfl, ht⟩
       unfold added12
       rw [if_neg (fun h => h h99), if_neg hl]
       exact ⟨rfl, fold12 (l := []) rfl rfl rfl ht hco⟩
   · refine (r12_step5go (t := S12.mk W L 5 at_ cl po ad live 0 0 0) hp ha hcn hf hai hsp hL h99 h0).mono ?_
     rintro e w' ⟨rfl, ht⟩
     unfold added12
     rw [if_pos h99]
     exact ⟨rfl, fold12 (av := ptr ya) (l := [(Ass.ex fun y' : Nat => (r6O (p.ct (p.v (at_))) p.s p.g p.n y' (aNext (p.ct (p.v at_)) p.s p.g p.n (S12.mk W L 5 at_ cl po ad live 0 0 0).a)).with_ (ptr ya = ptr y'))]) rfl rfl rfl (ht.mono (fun V hv => star_mono_r hv (fun V2 h2 => star_mono_l h2 (fun V3 h3 => ⟨ya, h3, rfl⟩)))) hco⟩
 · rw [I12.over rfl]
   refine (r12_step6 (t := S12.mk W L 6 at_ cl po ad live err on ond) hp hcn h0).mono ?_
   rintro e w' ⟨rfl, ht⟩
   exact ⟨rfl, fold12 (l := []) rfl rfl rfl ht hco⟩
end
end Go.Proofs.YthaceckccobgeaaGreat
