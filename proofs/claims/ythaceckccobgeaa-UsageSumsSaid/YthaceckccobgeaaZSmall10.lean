/- Contracts and plain laws for UsageSums, part 10: what the walk of the law leans on. -/
import Derived.Test.YthaceckccobgeaaZSmall9
namespace Go.Proofs.Ythaceckccobgeaa
open Go.RowKit
set_option linter.unusedVariables false
set_option linter.unusedSimpArgs false
set_option maxRecDepth 100000
section
variable {B m y : Nat} {p : P12} {t : S12} {a : Ad12} {pv av : Value} {R : Nat → Prop} {w : World}
set_option maxHeartbeats 4000000 in
theorem r12_step0go (hp : P12OK p) (ha : t.at_ < p.path.length) (hn : t.cl.n < p.K) (hci : CInv p.K p.q t.c) (hco : COk a.C p.K p.q p.K) (hth : p.th ≤ 1000) (hL : t.L.length ≤ 1000000000) (hfin : (cNext p.K p.th p.q t.c).fin = 0) (h : (stars (refO B m t.W t.L :: [Ass.blk y 71 [i64 p.tt, i64 (p.s : Int), i64 p.g, i64 p.lm, i64 p.r, i64 (p.K : Int), .slice (some ⟨a.pb, 0, none⟩) p.P.length a.pc, .slice (some ⟨a.lb, 0, none⟩) p.LL.length a.lc, i64 (p.nd : Int), i64 p.n, i64 (p.th : Int), .slice (some ⟨a.hb, 0, none⟩) p.path.length a.hc, i64 (((0 : Nat) : Int)), i64 ((t.at_ : Nat)), ptr a.yc, pv, av, i64 (t.live), i64 (t.err), i64 (t.on), .bool false, i64 (t.ond)], rowO 3 1 (.slice (some ⟨a.pb, 0, none⟩) p.P.length a.pc) p.P.length (ints p.P), rowO 3 1 (.slice (some ⟨a.lb, 0, none⟩) p.LL.length a.lc) p.LL.length (ints p.LL), rowO 3 1 (.slice (some ⟨a.hb, 0, none⟩) p.path.length a.hc) p.path.length (ints (nats p.path)), r11O a.C p.K p.th a.yc t.cl])).At R w) :
 Calls Try.prog 37 #[ptr y, ptr m] w fun e w' => e = .returned (.bool false) ∧ Tr (stars ((refO B m (cNext p.K p.th p.q t.c).W (cNext p.K p.th p.q t.c).L) :: [Ass.blk y 71 [i64 p.tt, i64 (p.s : Int), i64 p.g, i64 p.lm, i64 p.r, i64 (p.K : Int), .slice (some ⟨a.pb, 0, none⟩) p.P.length a.pc, .slice (some ⟨a.lb, 0, none⟩) p.LL.length a.lc, i64 (p.nd : Int), i64 p.n, i64 (p.th : Int), .slice (some ⟨a.hb, 0, none⟩) p.path.length a.hc, i64 (((0 : Nat) : Int)), i64 ((t.at_ : Nat)), ptr a.yc, pv, av, i64 (t.live), i64 (t.err), i64 (t.on), .bool false, i64 (t.ond)], rowO 3 1 (.slice (some ⟨a.pb, 0, none⟩) p.P.length a.pc) p.P.length (ints p.P), rowO 3 1 (.slice (some ⟨a.lb, 0, none⟩) p.LL.length a.lc) p.LL.length (ints p.LL), rowO 3 1 (.slice (some ⟨a.hb, 0, none⟩) p.path.length a.hc) p.path.length (ints (nats p.path)), r11O a.C p.K p.th a.yc (cNext p.K p.th p.q t.c)])) R w w' := by
 obtain ⟨w0, hw0⟩ : ∃ v, v = w := ⟨_, rfl⟩
 rw [← hw0] at h ⊢
 have HS := hid (show Sx R w0 [refO B m t.W t.L, Ass.blk y 71 [i64 p.tt, i64 (p.s : Int), i64 p.g, i64 p.lm, i64 p.r, i64 (p.K : Int), .slice (some ⟨a.pb, 0, none⟩) p.P.length a.pc, .slice (some ⟨a.lb, 0, none⟩) p.LL.length a.lc, i64 (p.nd : Int), i64 p.n, i64 (p.th : Int), .slice (some ⟨a.hb, 0, none⟩) p.path.length a.hc, i64 (((0 : Nat) : Int)), i64 ((t.at_ : Nat)), ptr a.yc, pv, av, i64 (t.live), i64 (t.err), i64 (t.on), .bool false, i64 (t.ond)], rowO 3 1 (.slice (some ⟨a.pb, 0, none⟩) p.P.length a.pc) p.P.length (ints p.P), rowO 3 1 (.slice (some ⟨a.lb, 0, none⟩) p.LL.length a.lc) p.LL.length (ints p.LL), rowO 3 1 (.slice (some ⟨a.hb, 0, none⟩) p.path.length a.hc) p.path.length (ints (nats p.path)), r11O a.C p.K p.th a.yc t.cl] w0 from Sx.start h)
 clear h hw0
 obtain ⟨c, hcn⟩ : ∃ c, c = cNext p.K p.th p.q t.c := ⟨_, rfl⟩
 rw [← hcn] at hfin ⊢
 have HCN := hid hcn
 clear hcn
 have hs8 := hp.s8
 have hp1 := hp.p1
 have hk1 := hp.k1
 obtain ⟨ae, hae⟩ : ∃ ae : Int, ae = (if t.cl.fin = 2 then 3 else 0) := ⟨_, rfl⟩
 have HAE := hid hae
 clear hae
 have htk0 := fun w' => ref_Ticket p.tt p.s p.g p.lm p.r p.K (some ⟨a.pb, 0, none⟩) p.P.length a.pc (some ⟨a.lb, 0, none⟩) p.LL.length a.lc (t.cl.n : Int) w' (by omega) (by omega) (by omega) (by omega) (by omega)
 rw [show (p.P.length : Int) * (6 + 2 * (p.s : Int)) + 2 * (t.cl.n : Int) = ((t.tk p : Nat) : Int) from by unfold S12.tk P12.q; push_cast; rfl] at htk0
 have HTK := hid htk0
 clear htk0
 go_enter Try.func37, Try.ntmps37
 go_upto_region 1 with fail
 apply wp_region_text (WI := fun S wx => Keep0 w0 wx) (by kernel_rfl) (by kernel_rfl)
 case hob =>
  iterate 8
   apply Oblig.cons
   case h =>
    intro S w1 hwi hSi hd hcl
    apply StepOk.intro
    intro K hK
    obtain ⟨_, ⟨hb, _⟩, _⟩ := Sx.get (Sx.pick (Sx.keep HS.out hwi) 1 (by simp))
    have qy := hb.k22
    clear hb
    obtain ⟨_, ⟨hcl, _⟩, _⟩ := Sx.get (Sx.pick (Sx.keep HS.out hwi) 5 (by simp))
    go_simp
    apply hK
    · rfl
    · conv => (lhs; whnf)
    · exact hwi
   simp only [put_lit, put_none]
   try dsimp only [List.set_cons_succ, List.set_cons_zero]
  apply Oblig.cons
  case h =>
   intro S w1 hwi hSi hd hcl
   apply StepOk.intro
   intro K hK
   obtain ⟨_, ⟨hb, _⟩, _⟩ := Sx.get (Sx.pick (Sx.keep HS.out hwi) 1 (by simp))
   have qy := hb.k22
   clear hb
   obtain ⟨_, ⟨hcl, _⟩, _⟩ := Sx.get (Sx.pick (Sx.keep HS.out hwi) 5 (by simp))
   go_simp
   refine (show Calls Try.prog 52 _ w1 (Ret (.agg #[i64 ae, i64 (t.cl.n : Int), .bool false, i64 0]) w1) from by have h := r11_Ans t.cl hcl; unfold clAns at h; rw [← HAE.out] at h; exact h).mono ?_
   rintro e w2 ⟨rfl, hk⟩
   apply hK
   · rfl
   · conv => (lhs; whnf)
   · exact Keep0.step hwi hk
  simp only [put_lit, put_none]
  try dsimp only [List.set_cons_succ, List.set_cons_zero]
  apply Oblig.cons
  case h =>
   intro S w1 hwi hSi hd hcl
   apply StepOk.intro
   intro K hK
   obtain ⟨_, ⟨hb, _⟩, _⟩ := Sx.get (Sx.pick (Sx.keep HS.out hwi) 1 (by simp))
   have qy := hb.k22
   clear hb
   obtain ⟨_, ⟨hcl, _⟩, _⟩ := Sx.get (Sx.pick (Sx.keep HS.out hwi) 5 (by simp))
   go_simp
   apply hK
   · rfl
   · conv => (lhs; whnf)
   · exact hwi
  simp only [put_lit, put_none]
  try dsimp only [List.set_cons_succ, List.set_cons_zero]
  apply Oblig.cons
  case h =>
   intro S w1 hwi hSi hd hcl
   apply StepOk.intro
   intro K hK
   go_simp
   refine (HTK.out _).mono ?_
   rintro e w2 ⟨rfl, hk⟩
   apply hK
   · rfl
   · conv => (lhs; whnf)
   · exact Keep0.step hwi hk
  simp only [put_lit, put_none]
  try dsimp only [List.set_cons_succ, List.set_cons_zero]
  apply Oblig.cons
  case h =>
   intro S w1 hwi hSi hd hcl
   apply StepOk.intro
   intro K hK
   obtain ⟨_, ⟨hb, _⟩, _⟩ := Sx.get (Sx.pick (Sx.keep HS.out hwi) 1 (by simp))
   have qy := hb.k22
   clear hb
   obtain ⟨_, ⟨hcl, _⟩, _⟩ := Sx.get (Sx.pick (Sx.keep HS.out hwi) 5 (by simp))
   go_simp
   apply hK
   · rfl
   · conv => (lhs; whnf)
   · exact hwi
  simp only [put_lit, put_none]
  try dsimp only [List.set_cons_succ, List.set_cons_zero]
  exact Oblig.nil
 case h0 =>
  exact (Keep.refl _ _).drew
 case hend =>
  intro S wx hwi hall
  have hkx := hwi
  obtain ⟨w1, hwn⟩ : ∃ v, v = wx := ⟨_, rfl⟩
  rw [← hwn] at hkx ⊢
  have hs := hid (show Sx R w0 [refO B m t.W t.L, Ass.blk y 71 [i64 p.tt, i64 (p.s : Int), i64 p.g, i64 p.lm, i64 p.r, i64 (p.K : Int), .slice (some ⟨a.pb, 0, none⟩) p.P.length a.pc, .slice (some ⟨a.lb, 0, none⟩) p.LL.length a.lc, i64 (p.nd : Int), i64 p.n, i64 (p.th : Int), .slice (some ⟨a.hb, 0, none⟩) p.path.length a.hc, i64 (((0 : Nat) : Int)), i64 ((t.at_ : Nat)), ptr a.yc, pv, av, i64 (t.live), i64 (t.err), i64 (t.on), .bool false, i64 (t.ond)], rowO 3 1 (.slice (some ⟨a.pb, 0, none⟩) p.P.length a.pc) p.P.length (ints p.P), rowO 3 1 (.slice (some ⟨a.lb, 0, none⟩) p.LL.length a.lc) p.LL.length (ints p.LL), rowO 3 1 (.slice (some ⟨a.hb, 0, none⟩) p.path.length a.hc) p.path.length (ints (nats p.path)), r11O a.C p.K p.th a.yc t.cl] w1 from Sx.keep HS.out hkx)
  clear hwi hall hkx hwn HS
  have HS := hs
  clear hs
  obtain ⟨_, ⟨hb, _⟩, _⟩ := Sx.get (show Sx R w0 [Ass.blk y 71 [i64 p.tt, i64 (p.s : Int), i64 p.g, i64 p.lm, i64 p.r, i64 (p.K : Int), .slice (some ⟨a.pb, 0, none⟩) p.P.length a.pc, .slice (some ⟨a.lb, 0, none⟩) p.LL.length a.lc, i64 (p.nd : Int), i64 p.n, i64 (p.th : Int), .slice (some ⟨a.hb, 0, none⟩) p.path.length a.hc, i64 (((0 : Nat) : Int)), i64 ((t.at_ : Nat)), ptr a.yc, pv, av, i64 (t.live), i64 (t.err), i64 (t.on), .bool false, i64 (t.ond)], refO B m t.W t.L, rowO 3 1 (.slice (some ⟨a.pb, 0, none⟩) p.P.length a.pc) p.P.length (ints p.P), rowO 3 1 (.slice (some ⟨a.lb, 0, none⟩) p.LL.length a.lc) p.LL.length (ints p.LL), rowO 3 1 (.slice (some ⟨a.hb, 0, none⟩) p.path.length a.hc) p.path.length (ints (nats p.path)), r11O a.C p.K p.th a.yc t.cl] w1 from (Sx.pick (show Sx R w0 [refO B m t.W t.L, Ass.blk y 71 [i64 p.tt, i64 (p.s : Int), i64 p.g, i64 p.lm, i64 p.r, i64 (p.K : Int), .slice (some ⟨a.pb, 0, none⟩) p.P.length a.pc, .slice (some ⟨a.lb, 0, none⟩) p.LL.length a.lc, i64 (p.nd : Int), i64 p.n, i64 (p.th : Int), .slice (some ⟨a.hb, 0, none⟩) p.path.length a.hc, i64 (((0 : Nat) : Int)), i64 ((t.at_ : Nat)), ptr a.yc, pv, av, i64 (t.live), i64 (t.err), i64 (t.on), .bool false, i64 (t.ond)], rowO 3 1 (.slice (some ⟨a.pb, 0, none⟩) p.P.length a.pc) p.P.length (ints p.P), rowO 3 1 (.slice (some ⟨a.lb, 0, none⟩) p.LL.length a.lc) p.LL.length (ints p.LL), rowO 3 1 (.slice (some ⟨a.hb, 0, none⟩) p.path.length a.hc) p.path.length (ints (nats p.path)), r11O a.C p.K p.th a.yc t.cl] w1 from by repeat (with_reducible first | exact HS.out | apply Sx.alloc | apply Sx.drewN | apply Sx.drew)) 1 (by simp)))
  have qy := hb.k22
  clear hb
  go_wp2_with fail
  refine Calls.mono (Sx.call (q := Ass.star (refO B m c.W c.L) (r11O a.C p.K p.th a.yc c)) (Sx.pair (show Sx R w0 [refO B m t.W t.L, r11O a.C p.K p.th a.yc t.cl, Ass.blk y 71 [i64 p.tt, i64 (p.s : Int), i64 p.g, i64 p.lm, i64 p.r, i64 (p.K : Int), .slice (some ⟨a.pb, 0, none⟩) p.P.length a.pc, .slice (some ⟨a.lb, 0, none⟩) p.LL.length a.lc, i64 (p.nd : Int), i64 p.n, i64 (p.th : Int), .slice (some ⟨a.hb, 0, none⟩) p.path.length a.hc, i64 (((0 : Nat) : Int)), i64 ((t.at_ : Nat)), ptr a.yc, pv, av, i64 (t.live), i64 (t.err), i64 (t.on), .bool false, i64 (t.ond)], rowO 3 1 (.slice (some ⟨a.pb, 0, none⟩) p.P.length a.pc) p.P.length (ints p.P), rowO 3 1 (.slice (some ⟨a.lb, 0, none⟩) p.LL.length a.lc) p.LL.length (ints p.LL), rowO 3 1 (.slice (some ⟨a.hb, 0, none⟩) p.path.length a.hc) p.path.length (ints (nats p.path))] _ from (Sx.pick (Sx.pick (show Sx R w0 [refO B m t.W t.L, Ass.blk y 71 [i64 p.tt, i64 (p.s : Int), i64 p.g, i64 p.lm, i64 p.r, i64 (p.K : Int), .slice (some ⟨a.pb, 0, none⟩) p.P.length a.pc, .slice (some ⟨a.lb, 0, none⟩) p.LL.length a.lc, i64 (p.nd : Int), i64 p.n, i64 (p.th : Int), .slice (some ⟨a.hb, 0, none⟩) p.path.length a.hc, i64 (((0 : Nat) : Int)), i64 ((t.at_ : Nat)), ptr a.yc, pv, av, i64 (t.live), i64 (t.err), i64 (t.on), .bool false, i64 (t.ond)], rowO 3 1 (.slice (some ⟨a.pb, 0, none⟩) p.P.length a.pc) p.P.length (ints p.P), rowO 3 1 (.slice (some ⟨a.lb, 0, none⟩) p.LL.length a.lc) p.LL.length (ints p.LL), rowO 3 1 (.slice (some ⟨a.hb, 0, none⟩) p.path.length a.hc) p.path.length (ints (nats p.path)), r11O a.C p.K p.th a.yc t.cl] _ from by repeat (with_reducible first | exact HS.out | apply Sx.alloc | apply Sx.drewN | apply Sx.drew)) 5 (by simp)) 1 (by simp)))) (fun Rq hr hz => (show Calls Try.prog 53 _ _ (fun e w' => e = .returned (.bool (decide (c.fin ≠ 0))) ∧ Tr _ Rq _ w') from by rw [HCN.out]; exact r11O_Step (t := t.c) hr hci hco (by omega) hL))) ?_
  rintro e w2 ⟨rfl, hs⟩
  clear HS
  have HS := hid (show Sx R w0 [refO B m c.W c.L, r11O a.C p.K p.th a.yc c, Ass.blk y 71 [i64 p.tt, i64 (p.s : Int), i64 p.g, i64 p.lm, i64 p.r, i64 (p.K : Int), .slice (some ⟨a.pb, 0, none⟩) p.P.length a.pc, .slice (some ⟨a.lb, 0, none⟩) p.LL.length a.lc, i64 (p.nd : Int), i64 p.n, i64 (p.th : Int), .slice (some ⟨a.hb, 0, none⟩) p.path.length a.hc, i64 (((0 : Nat) : Int)), i64 ((t.at_ : Nat)), ptr a.yc, pv, av, i64 (t.live), i64 (t.err), i64 (t.on), .bool false, i64 (t.ond)], rowO 3 1 (.slice (some ⟨a.pb, 0, none⟩) p.P.length a.pc) p.P.length (ints p.P), rowO 3 1 (.slice (some ⟨a.lb, 0, none⟩) p.LL.length a.lc) p.LL.length (ints p.LL), rowO 3 1 (.slice (some ⟨a.hb, 0, none⟩) p.path.length a.hc) p.path.length (ints (nats p.path))] w2 from Sx.part hs)
  clear hs
  clear qy
  obtain ⟨_, ⟨hb, _⟩, _⟩ := Sx.get (show Sx R w0 [Ass.blk y 71 [i64 p.tt, i64 (p.s : Int), i64 p.g, i64 p.lm, i64 p.r, i64 (p.K : Int), .slice (some ⟨a.pb, 0, none⟩) p.P.length a.pc, .slice (some ⟨a.lb, 0, none⟩) p.LL.length a.lc, i64 (p.nd : Int), i64 p.n, i64 (p.th : Int), .slice (some ⟨a.hb, 0, none⟩) p.path.length a.hc, i64 (((0 : Nat) : Int)), i64 ((t.at_ : Nat)), ptr a.yc, pv, av, i64 (t.live), i64 (t.err), i64 (t.on), .bool false, i64 (t.ond)], refO B m c.W c.L, r11O a.C p.K p.th a.yc c, rowO 3 1 (.slice (some ⟨a.pb, 0, none⟩) p.P.length a.pc) p.P.length (ints p.P), rowO 3 1 (.slice (some ⟨a.lb, 0, none⟩) p.LL.length a.lc) p.LL.length (ints p.LL), rowO 3 1 (.slice (some ⟨a.hb, 0, none⟩) p.path.length a.hc) p.path.length (ints (nats p.path))] w2 from (Sx.pick (show Sx R w0 [refO B m c.W c.L, r11O a.C p.K p.th a.yc c, Ass.blk y 71 [i64 p.tt, i64 (p.s : Int), i64 p.g, i64 p.lm, i64 p.r, i64 (p.K : Int), .slice (some ⟨a.pb, 0, none⟩) p.P.length a.pc, .slice (some ⟨a.lb, 0, none⟩) p.LL.length a.lc, i64 (p.nd : Int), i64 p.n, i64 (p.th : Int), .slice (some ⟨a.hb, 0, none⟩) p.path.length a.hc, i64 (((0 : Nat) : Int)), i64 ((t.at_ : Nat)), ptr a.yc, pv, av, i64 (t.live), i64 (t.err), i64 (t.on), .bool false, i64 (t.ond)], rowO 3 1 (.slice (some ⟨a.pb, 0, none⟩) p.P.length a.pc) p.P.length (ints p.P), rowO 3 1 (.slice (some ⟨a.lb, 0, none⟩) p.LL.length a.lc) p.LL.length (ints p.LL), rowO 3 1 (.slice (some ⟨a.hb, 0, none⟩) p.path.length a.hc) p.path.length (ints (nats p.path))] w2 from by repeat (with_reducible first | exact HS.out | apply Sx.alloc | apply Sx.drewN | apply Sx.drew)) 2 (by simp)))
  have qy := hb.k22
  clear hb
  have g1 : decide (c.fin ≠ 0) = false := by simp [hfin]
  rw [g1]
  go_wp2_with fail
  go_ret
  exact ⟨rfl, (show Sx R w0 [refO B m c.W c.L, Ass.blk y 71 [i64 p.tt, i64 (p.s : Int), i64 p.g, i64 p.lm, i64 p.r, i64 (p.K : Int), .slice (some ⟨a.pb, 0, none⟩) p.P.length a.pc, .slice (some ⟨a.lb, 0, none⟩) p.LL.length a.lc, i64 (p.nd : Int), i64 p.n, i64 (p.th : Int), .slice (some ⟨a.hb, 0, none⟩) p.path.length a.hc, i64 (((0 : Nat) : Int)), i64 ((t.at_ : Nat)), ptr a.yc, pv, av, i64 (t.live), i64 (t.err), i64 (t.on), .bool false, i64 (t.ond)], rowO 3 1 (.slice (some ⟨a.pb, 0, none⟩) p.P.length a.pc) p.P.length (ints p.P), rowO 3 1 (.slice (some ⟨a.lb, 0, none⟩) p.LL.length a.lc) p.LL.length (ints p.LL), rowO 3 1 (.slice (some ⟨a.hb, 0, none⟩) p.path.length a.hc) p.path.length (ints (nats p.path)), r11O a.C p.K p.th a.yc c] _ from (Sx.pick (Sx.pick (Sx.pick (Sx.pick (Sx.pick (Sx.pick (show Sx R w0 [refO B m c.W c.L, r11O a.C p.K p.th a.yc c, Ass.blk y 71 [i64 p.tt, i64 (p.s : Int), i64 p.g, i64 p.lm, i64 p.r, i64 (p.K : Int), .slice (some ⟨a.pb, 0, none⟩) p.P.length a.pc, .slice (some ⟨a.lb, 0, none⟩) p.LL.length a.lc, i64 (p.nd : Int), i64 p.n, i64 (p.th : Int), .slice (some ⟨a.hb, 0, none⟩) p.path.length a.hc, i64 (((0 : Nat) : Int)), i64 ((t.at_ : Nat)), ptr a.yc, pv, av, i64 (t.live), i64 (t.err), i64 (t.on), .bool false, i64 (t.ond)], rowO 3 1 (.slice (some ⟨a.pb, 0, none⟩) p.P.length a.pc) p.P.length (ints p.P), rowO 3 1 (.slice (some ⟨a.lb, 0, none⟩) p.LL.length a.lc) p.LL.length (ints p.LL), rowO 3 1 (.slice (some ⟨a.hb, 0, none⟩) p.path.length a.hc) p.path.length (ints (nats p.path))] _ from by repeat (with_reducible first | exact HS.out | apply Sx.alloc | apply Sx.drewN | apply Sx.drew)) 1 (by simp)) 5 (by simp)) 5 (by simp)) 5 (by simp)) 5 (by simp)) 5 (by simp)))⟩
set_option maxHeartbeats 4000000 in
theorem r12_step0no (hp : P12OK p) (ha : t.at_ < p.path.length) (hn : t.cl.n < p.K) (hci : CInv p.K p.q t.c) (hco : COk a.C p.K p.q p.K) (hth : p.th ≤ 1000) (hL : t.L.length ≤ 1000000000) (hfin : (cNext p.K p.th p.q t.c).fin = 2) (hn2 : (cNext p.K p.th p.q t.c).n = 0) (h : (stars (refO B m t.W t.L :: [Ass.blk y 71 [i64 p.tt, i64 (p.s : Int), i64 p.g, i64 p.lm, i64 p.r, i64 (p.K : Int), .slice (some ⟨a.pb, 0, none⟩) p.P.length a.pc, .slice (some ⟨a.lb, 0, none⟩) p.LL.length a.lc, i64 (p.nd : Int), i64 p.n, i64 (p.th : Int), .slice (some ⟨a.hb, 0, none⟩) p.path.length a.hc, i64 (((0 : Nat) : Int)), i64 ((t.at_ : Nat)), ptr a.yc, pv, av, i64 (t.live), i64 (t.err), i64 (t.on), .bool false, i64 (t.ond)], rowO 3 1 (.slice (some ⟨a.pb, 0, none⟩) p.P.length a.pc) p.P.length (ints p.P), rowO 3 1 (.slice (some ⟨a.lb, 0, none⟩) p.LL.length a.lc) p.LL.length (ints p.LL), rowO 3 1 (.slice (some ⟨a.hb, 0, none⟩) p.path.length a.hc) p.path.length (ints (nats p.path)), r11O a.C p.K p.th a.yc t.cl])).At R w) :
 Calls Try.prog 37 #[ptr y, ptr m] w fun e w' => e = .returned (.bool true) ∧ Tr (stars ((refO B m (cNext p.K p.th p.q t.c).W (cNext p.K p.th p.q t.c).L) :: [Ass.blk y 71 [i64 p.tt, i64 (p.s : Int), i64 p.g, i64 p.lm, i64 p.r, i64 (p.K : Int), .slice (some ⟨a.pb, 0, none⟩) p.P.length a.pc, .slice (some ⟨a.lb, 0, none⟩) p.LL.length a.lc, i64 (p.nd : Int), i64 p.n, i64 (p.th : Int), .slice (some ⟨a.hb, 0, none⟩) p.path.length a.hc, i64 (6), i64 ((t.at_ : Nat)), ptr a.yc, pv, av, i64 (t.live), i64 (3), i64 (0), .bool false, i64 (0)], rowO 3 1 (.slice (some ⟨a.pb, 0, none⟩) p.P.length a.pc) p.P.length (ints p.P), rowO 3 1 (.slice (some ⟨a.lb, 0, none⟩) p.LL.length a.lc) p.LL.length (ints p.LL), rowO 3 1 (.slice (some ⟨a.hb, 0, none⟩) p.path.length a.hc) p.path.length (ints (nats p.path)), r11O a.C p.K p.th a.yc (cNext p.K p.th p.q t.c)])) R w w' := by
 obtain ⟨w0, hw0⟩ : ∃ v, v = w := ⟨_, rfl⟩
 rw [← hw0] at h ⊢
 have HS := hid (show Sx R w0 [refO B m t.W t.L, Ass.blk y 71 [i64 p.tt, i64 (p.s : Int), i64 p.g, i64 p.lm, i64 p.r, i64 (p.K : Int), .slice (some ⟨a.pb, 0, none⟩) p.P.length a.pc, .slice (some ⟨a.lb, 0, none⟩) p.LL.length a.lc, i64 (p.nd : Int), i64 p.n, i64 (p.th : Int), .slice (some ⟨a.hb, 0, none⟩) p.path.length a.hc, i64 (((0 : Nat) : Int)), i64 ((t.at_ : Nat)), ptr a.yc, pv, av, i64 (t.live), i64 (t.err), i64 (t.on), .bool false, i64 (t.ond)], rowO 3 1 (.slice (some ⟨a.pb, 0, none⟩) p.P.length a.pc) p.P.length (ints p.P), rowO 3 1 (.slice (some ⟨a.lb, 0, none⟩) p.LL.length a.lc) p.LL.length (ints p.LL), rowO 3 1 (.slice (some ⟨a.hb, 0, none⟩) p.path.length a.hc) p.path.length (ints (nats p.path)), r11O a.C p.K p.th a.yc t.cl] w0 from Sx.start h)
 clear h hw0
 obtain ⟨c, hcn⟩ : ∃ c, c = cNext p.K p.th p.q t.c := ⟨_, rfl⟩
 rw [← hcn] at hfin hn2 ⊢
 have HCN := hid hcn
 clear hcn
 have hs8 := hp.s8
 have hp1 := hp.p1
 have hk1 := hp.k1
 obtain ⟨ae, hae⟩ : ∃ ae : Int, ae = (if t.cl.fin = 2 then 3 else 0) := ⟨_, rfl⟩
 have HAE := hid hae
 clear hae
 have htk0 := fun w' => ref_Ticket p.tt p.s p.g p.lm p.r p.K (some ⟨a.pb, 0, none⟩) p.P.length a.pc (some ⟨a.lb, 0, none⟩) p.LL.length a.lc (t.cl.n : Int) w' (by omega) (by omega) (by omega) (by omega) (by omega)
 rw [show (p.P.length : Int) * (6 + 2 * (p.s : Int)) + 2 * (t.cl.n : Int) = ((t.tk p : Nat) : Int) from by unfold S12.tk P12.q; push_cast; rfl] at htk0
 have HTK := hid htk0
 clear htk0
 go_enter Try.func37, Try.ntmps37
 go_upto_region 1 with fail
 apply wp_region_text (WI := fun S wx => Keep0 w0 wx) (by kernel_rfl) (by kernel_rfl)
 case hob =>
  iterate 8
   apply Oblig.cons
   case h =>
    intro S w1 hwi hSi hd hcl
    apply StepOk.intro
    intro K hK
    obtain ⟨_, ⟨hb, _⟩, _⟩ := Sx.get (Sx.pick (Sx.keep HS.out hwi) 1 (by simp))
    have qy := hb.k22
    clear hb
    obtain ⟨_, ⟨hcl, _⟩, _⟩ := Sx.get (Sx.pick (Sx.keep HS.out hwi) 5 (by simp))
    go_simp
    apply hK
    · rfl
    · conv => (lhs; whnf)
    · exact hwi
   simp only [put_lit, put_none]
   try dsimp only [List.set_cons_succ, List.set_cons_zero]
  apply Oblig.cons
  case h =>
   intro S w1 hwi hSi hd hcl
   apply StepOk.intro
   intro K hK
   obtain ⟨_, ⟨hb, _⟩, _⟩ := Sx.get (Sx.pick (Sx.keep HS.out hwi) 1 (by simp))
   have qy := hb.k22
   clear hb
   obtain ⟨_, ⟨hcl, _⟩, _⟩ := Sx.get (Sx.pick (Sx.keep HS.out hwi) 5 (by simp))
   go_simp
   refine (show Calls Try.prog 52 _ w1 (Ret (.agg #[i64 ae, i64 (t.cl.n : Int), .bool false, i64 0]) w1) from by have h := r11_Ans t.cl hcl; unfold clAns at h; rw [← HAE.out] at h; exact h).mono ?_
   rintro e w2 ⟨rfl, hk⟩
   apply hK
   · rfl
   · conv => (lhs; whnf)
   · exact Keep0.step hwi hk
  simp only [put_lit, put_none]
  try dsimp only [List.set_cons_succ, List.set_cons_zero]
  apply Oblig.cons
  case h =>
   intro S w1 hwi hSi hd hcl
   apply StepOk.intro
   intro K hK
   obtain ⟨_, ⟨hb, _⟩, _⟩ := Sx.get (Sx.pick (Sx.keep HS.out hwi) 1 (by simp))
   have qy := hb.k22
   clear hb
   obtain ⟨_, ⟨hcl, _⟩, _⟩ := Sx.get (Sx.pick (Sx.keep HS.out hwi) 5 (by simp))
   go_simp
   apply hK
   · rfl
   · conv => (lhs; whnf)
   · exact hwi
  simp only [put_lit, put_none]
  try dsimp only [List.set_cons_succ, List.set_cons_zero]
  apply Oblig.cons
  case h =>
   intro S w1 hwi hSi hd hcl
   apply StepOk.intro
   intro K hK
   go_simp
   refine (HTK.out _).mono ?_
   rintro e w2 ⟨rfl, hk⟩
   apply hK
   · rfl
   · conv => (lhs; whnf)
   · exact Keep0.step hwi hk
  simp only [put_lit, put_none]
  try dsimp only [List.set_cons_succ, List.set_cons_zero]
  apply Oblig.cons
  case h =>
   intro S w1 hwi hSi hd hcl
   apply StepOk.intro
   intro K hK
   obtain ⟨_, ⟨hb, _⟩, _⟩ := Sx.get (Sx.pick (Sx.keep HS.out hwi) 1 (by simp))
   have qy := hb.k22
   clear hb
   obtain ⟨_, ⟨hcl, _⟩, _⟩ := Sx.get (Sx.pick (Sx.keep HS.out hwi) 5 (by simp))
   go_simp
   apply hK
   · rfl
   · conv => (lhs; whnf)
   · exact hwi
  simp only [put_lit, put_none]
  try dsimp only [List.set_cons_succ, List.set_cons_zero]
  exact Oblig.nil
 case h0 =>
  exact (Keep.refl _ _).drew
 case hend =>
  intro S wx hwi hall
  have hkx := hwi
  obtain ⟨w1, hwn⟩ : ∃ v, v = wx := ⟨_, rfl⟩
  rw [← hwn] at hkx ⊢
  have hs := hid (show Sx R w0 [refO B m t.W t.L, Ass.blk y 71 [i64 p.tt, i64 (p.s : Int), i64 p.g, i64 p.lm, i64 p.r, i64 (p.K : Int), .slice (some ⟨a.pb, 0, none⟩) p.P.length a.pc, .slice (some ⟨a.lb, 0, none⟩) p.LL.length a.lc, i64 (p.nd : Int), i64 p.n, i64 (p.th : Int), .slice (some ⟨a.hb, 0, none⟩) p.path.length a.hc, i64 (((0 : Nat) : Int)), i64 ((t.at_ : Nat)), ptr a.yc, pv, av, i64 (t.live), i64 (t.err), i64 (t.on), .bool false, i64 (t.ond)], rowO 3 1 (.slice (some ⟨a.pb, 0, none⟩) p.P.length a.pc) p.P.length (ints p.P), rowO 3 1 (.slice (some ⟨a.lb, 0, none⟩) p.LL.length a.lc) p.LL.length (ints p.LL), rowO 3 1 (.slice (some ⟨a.hb, 0, none⟩) p.path.length a.hc) p.path.length (ints (nats p.path)), r11O a.C p.K p.th a.yc t.cl] w1 from Sx.keep HS.out hkx)
  clear hwi hall hkx hwn HS
  have HS := hs
  clear hs
  obtain ⟨_, ⟨hb, _⟩, _⟩ := Sx.get (show Sx R w0 [Ass.blk y 71 [i64 p.tt, i64 (p.s : Int), i64 p.g, i64 p.lm, i64 p.r, i64 (p.K : Int), .slice (some ⟨a.pb, 0, none⟩) p.P.length a.pc, .slice (some ⟨a.lb, 0, none⟩) p.LL.length a.lc, i64 (p.nd : Int), i64 p.n, i64 (p.th : Int), .slice (some ⟨a.hb, 0, none⟩) p.path.length a.hc, i64 (((0 : Nat) : Int)), i64 ((t.at_ : Nat)), ptr a.yc, pv, av, i64 (t.live), i64 (t.err), i64 (t.on), .bool false, i64 (t.ond)], refO B m t.W t.L, rowO 3 1 (.slice (some ⟨a.pb, 0, none⟩) p.P.length a.pc) p.P.length (ints p.P), rowO 3 1 (.slice (some ⟨a.lb, 0, none⟩) p.LL.length a.lc) p.LL.length (ints p.LL), rowO 3 1 (.slice (some ⟨a.hb, 0, none⟩) p.path.length a.hc) p.path.length (ints (nats p.path)), r11O a.C p.K p.th a.yc t.cl] w1 from (Sx.pick (show Sx R w0 [refO B m t.W t.L, Ass.blk y 71 [i64 p.tt, i64 (p.s : Int), i64 p.g, i64 p.lm, i64 p.r, i64 (p.K : Int), .slice (some ⟨a.pb, 0, none⟩) p.P.length a.pc, .slice (some ⟨a.lb, 0, none⟩) p.LL.length a.lc, i64 (p.nd : Int), i64 p.n, i64 (p.th : Int), .slice (some ⟨a.hb, 0, none⟩) p.path.length a.hc, i64 (((0 : Nat) : Int)), i64 ((t.at_ : Nat)), ptr a.yc, pv, av, i64 (t.live), i64 (t.err), i64 (t.on), .bool false, i64 (t.ond)], rowO 3 1 (.slice (some ⟨a.pb, 0, none⟩) p.P.length a.pc) p.P.length (ints p.P), rowO 3 1 (.slice (some ⟨a.lb, 0, none⟩) p.LL.length a.lc) p.LL.length (ints p.LL), rowO 3 1 (.slice (some ⟨a.hb, 0, none⟩) p.path.length a.hc) p.path.length (ints (nats p.path)), r11O a.C p.K p.th a.yc t.cl] w1 from by repeat (with_reducible first | exact HS.out | apply Sx.alloc | apply Sx.drewN | apply Sx.drew)) 1 (by simp)))
  have qy := hb.k22
  clear hb
  go_wp2_with fail
  refine Calls.mono (Sx.call (q := Ass.star (refO B m c.W c.L) (r11O a.C p.K p.th a.yc c)) (Sx.pair (show Sx R w0 [refO B m t.W t.L, r11O a.C p.K p.th a.yc t.cl, Ass.blk y 71 [i64 p.tt, i64 (p.s : Int), i64 p.g, i64 p.lm, i64 p.r, i64 (p.K : Int), .slice (some ⟨a.pb, 0, none⟩) p.P.length a.pc, .slice (some ⟨a.lb, 0, none⟩) p.LL.length a.lc, i64 (p.nd : Int), i64 p.n, i64 (p.th : Int), .slice (some ⟨a.hb, 0, none⟩) p.path.length a.hc, i64 (((0 : Nat) : Int)), i64 ((t.at_ : Nat)), ptr a.yc, pv, av, i64 (t.live), i64 (t.err), i64 (t.on), .bool false, i64 (t.ond)], rowO 3 1 (.slice (some ⟨a.pb, 0, none⟩) p.P.length a.pc) p.P.length (ints p.P), rowO 3 1 (.slice (some ⟨a.lb, 0, none⟩) p.LL.length a.lc) p.LL.length (ints p.LL), rowO 3 1 (.slice (some ⟨a.hb, 0, none⟩) p.path.length a.hc) p.path.length (ints (nats p.path))] _ from (Sx.pick (Sx.pick (show Sx R w0 [refO B m t.W t.L, Ass.blk y 71 [i64 p.tt, i64 (p.s : Int), i64 p.g, i64 p.lm, i64 p.r, i64 (p.K : Int), .slice (some ⟨a.pb, 0, none⟩) p.P.length a.pc, .slice (some ⟨a.lb, 0, none⟩) p.LL.length a.lc, i64 (p.nd : Int), i64 p.n, i64 (p.th : Int), .slice (some ⟨a.hb, 0, none⟩) p.path.length a.hc, i64 (((0 : Nat) : Int)), i64 ((t.at_ : Nat)), ptr a.yc, pv, av, i64 (t.live), i64 (t.err), i64 (t.on), .bool false, i64 (t.ond)], rowO 3 1 (.slice (some ⟨a.pb, 0, none⟩) p.P.length a.pc) p.P.length (ints p.P), rowO 3 1 (.slice (some ⟨a.lb, 0, none⟩) p.LL.length a.lc) p.LL.length (ints p.LL), rowO 3 1 (.slice (some ⟨a.hb, 0, none⟩) p.path.length a.hc) p.path.length (ints (nats p.path)), r11O a.C p.K p.th a.yc t.cl] _ from by repeat (with_reducible first | exact HS.out | apply Sx.alloc | apply Sx.drewN | apply Sx.drew)) 5 (by simp)) 1 (by simp)))) (fun Rq hr hz => (show Calls Try.prog 53 _ _ (fun e w' => e = .returned (.bool (decide (c.fin ≠ 0))) ∧ Tr _ Rq _ w') from by rw [HCN.out]; exact r11O_Step (t := t.c) hr hci hco (by omega) hL))) ?_
  rintro e w2 ⟨rfl, hs⟩
  clear HS
  have HS := hid (show Sx R w0 [refO B m c.W c.L, r11O a.C p.K p.th a.yc c, Ass.blk y 71 [i64 p.tt, i64 (p.s : Int), i64 p.g, i64 p.lm, i64 p.r, i64 (p.K : Int), .slice (some ⟨a.pb, 0, none⟩) p.P.length a.pc, .slice (some ⟨a.lb, 0, none⟩) p.LL.length a.lc, i64 (p.nd : Int), i64 p.n, i64 (p.th : Int), .slice (some ⟨a.hb, 0, none⟩) p.path.length a.hc, i64 (((0 : Nat) : Int)), i64 ((t.at_ : Nat)), ptr a.yc, pv, av, i64 (t.live), i64 (t.err), i64 (t.on), .bool false, i64 (t.ond)], rowO 3 1 (.slice (some ⟨a.pb, 0, none⟩) p.P.length a.pc) p.P.length (ints p.P), rowO 3 1 (.slice (some ⟨a.lb, 0, none⟩) p.LL.length a.lc) p.LL.length (ints p.LL), rowO 3 1 (.slice (some ⟨a.hb, 0, none⟩) p.path.length a.hc) p.path.length (ints (nats p.path))] w2 from Sx.part hs)
  clear hs
  clear qy
  obtain ⟨_, ⟨hb, _⟩, _⟩ := Sx.get (show Sx R w0 [Ass.blk y 71 [i64 p.tt, i64 (p.s : Int), i64 p.g, i64 p.lm, i64 p.r, i64 (p.K : Int), .slice (some ⟨a.pb, 0, none⟩) p.P.length a.pc, .slice (some ⟨a.lb, 0, none⟩) p.LL.length a.lc, i64 (p.nd : Int), i64 p.n, i64 (p.th : Int), .slice (some ⟨a.hb, 0, none⟩) p.path.length a.hc, i64 (((0 : Nat) : Int)), i64 ((t.at_ : Nat)), ptr a.yc, pv, av, i64 (t.live), i64 (t.err), i64 (t.on), .bool false, i64 (t.ond)], refO B m c.W c.L, r11O a.C p.K p.th a.yc c, rowO 3 1 (.slice (some ⟨a.pb, 0, none⟩) p.P.length a.pc) p.P.length (ints p.P), rowO 3 1 (.slice (some ⟨a.lb, 0, none⟩) p.LL.length a.lc) p.LL.length (ints p.LL), rowO 3 1 (.slice (some ⟨a.hb, 0, none⟩) p.path.length a.hc) p.path.length (ints (nats p.path))] w2 from (Sx.pick (show Sx R w0 [refO B m c.W c.L, r11O a.C p.K p.th a.yc c, Ass.blk y 71 [i64 p.tt, i64 (p.s : Int), i64 p.g, i64 p.lm, i64 p.r, i64 (p.K : Int), .slice (some ⟨a.pb, 0, none⟩) p.P.length a.pc, .slice (some ⟨a.lb, 0, none⟩) p.LL.length a.lc, i64 (p.nd : Int), i64 p.n, i64 (p.th : Int), .slice (some ⟨a.hb, 0, none⟩) p.path.length a.hc, i64 (((0 : Nat) : Int)), i64 ((t.at_ : Nat)), ptr a.yc, pv, av, i64 (t.live), i64 (t.err), i64 (t.on), .bool false, i64 (t.ond)], rowO 3 1 (.slice (some ⟨a.pb, 0, none⟩) p.P.length a.pc) p.P.length (ints p.P), rowO 3 1 (.slice (some ⟨a.lb, 0, none⟩) p.LL.length a.lc) p.LL.length (ints p.LL), rowO 3 1 (.slice (some ⟨a.hb, 0, none⟩) p.path.length a.hc) p.path.length (ints (nats p.path))] w2 from by repeat (with_reducible first | exact HS.out | apply Sx.alloc | apply Sx.drewN | apply Sx.drew)) 2 (by simp)))
  have qy := hb.k22
  clear hb
  have g1 : decide (c.fin ≠ 0) = true := by simp [hfin]
  rw [g1]
  clear g1
  go_wp2_with fail
  have hs := hid (show Sx R w0 [Ass.blk y 71 [i64 p.tt, i64 (p.s : Int), i64 p.g, i64 p.lm, i64 p.r, i64 (p.K : Int), .slice (some ⟨a.pb, 0, none⟩) p.P.length a.pc, .slice (some ⟨a.lb, 0, none⟩) p.LL.length a.lc, i64 (p.nd : Int), i64 p.n, i64 (p.th : Int), .slice (some ⟨a.hb, 0, none⟩) p.path.length a.hc, i64 (((0 : Nat) : Int)), i64 ((t.at_ : Nat)), ptr a.yc, pv, av, i64 (t.live), i64 (t.err), i64 (t.on), .bool false, i64 (t.ond)], rowO 3 1 (.slice (some ⟨a.pb, 0, none⟩) p.P.length a.pc) p.P.length (ints p.P), rowO 3 1 (.slice (some ⟨a.lb, 0, none⟩) p.LL.length a.lc) p.LL.length (ints p.LL), rowO 3 1 (.slice (some ⟨a.hb, 0, none⟩) p.path.length a.hc) p.path.length (ints (nats p.path)), r11O a.C p.K p.th a.yc c, refO B m c.W c.L] w2 from (Sx.pick (Sx.pick (Sx.pick (Sx.pick (Sx.pick (show Sx R w0 [refO B m c.W c.L, r11O a.C p.K p.th a.yc c, Ass.blk y 71 [i64 p.tt, i64 (p.s : Int), i64 p.g, i64 p.lm, i64 p.r, i64 (p.K : Int), .slice (some ⟨a.pb, 0, none⟩) p.P.length a.pc, .slice (some ⟨a.lb, 0, none⟩) p.LL.length a.lc, i64 (p.nd : Int), i64 p.n, i64 (p.th : Int), .slice (some ⟨a.hb, 0, none⟩) p.path.length a.hc, i64 (((0 : Nat) : Int)), i64 ((t.at_ : Nat)), ptr a.yc, pv, av, i64 (t.live), i64 (t.err), i64 (t.on), .bool false, i64 (t.ond)], rowO 3 1 (.slice (some ⟨a.pb, 0, none⟩) p.P.length a.pc) p.P.length (ints p.P), rowO 3 1 (.slice (some ⟨a.lb, 0, none⟩) p.LL.length a.lc) p.LL.length (ints p.LL), rowO 3 1 (.slice (some ⟨a.hb, 0, none⟩) p.path.length a.hc) p.path.length (ints (nats p.path))] w2 from by repeat (with_reducible first | exact HS.out | apply Sx.alloc | apply Sx.drewN | apply Sx.drew)) 1 (by simp)) 5 (by simp)) 5 (by simp)) 5 (by simp)) 5 (by simp)))
  clear HS
  have HS := hs
  clear hs
  refine Calls.mono (Sx.call (Sx.group [Ass.blk y 71 [i64 p.tt, i64 (p.s : Int), i64 p.g, i64 p.lm, i64 p.r, i64 (p.K : Int), .slice (some ⟨a.pb, 0, none⟩) p.P.length a.pc, .slice (some ⟨a.lb, 0, none⟩) p.LL.length a.lc, i64 (p.nd : Int), i64 p.n, i64 (p.th : Int), .slice (some ⟨a.hb, 0, none⟩) p.path.length a.hc, i64 (((0 : Nat) : Int)), i64 ((t.at_ : Nat)), ptr a.yc, pv, av, i64 (t.live), i64 (t.err), i64 (t.on), .bool false, i64 (t.ond)], rowO 3 1 (.slice (some ⟨a.pb, 0, none⟩) p.P.length a.pc) p.P.length (ints p.P), rowO 3 1 (.slice (some ⟨a.lb, 0, none⟩) p.LL.length a.lc) p.LL.length (ints p.LL), rowO 3 1 (.slice (some ⟨a.hb, 0, none⟩) p.path.length a.hc) p.path.length (ints (nats p.path)), r11O a.C p.K p.th a.yc c] (l := [refO B m c.W c.L]) HS.out) (fun Rq hr _ => r12_claimed_no (t := { t with ph := 0, cl := c }) (pv := pv) (av := av) hfin hn2 hr)) ?_
  rintro e w3 ⟨rfl, hs⟩
  clear HS
  have HS := hid (show Sx R w0 [Ass.blk y 71 [i64 p.tt, i64 (p.s : Int), i64 p.g, i64 p.lm, i64 p.r, i64 (p.K : Int), .slice (some ⟨a.pb, 0, none⟩) p.P.length a.pc, .slice (some ⟨a.lb, 0, none⟩) p.LL.length a.lc, i64 (p.nd : Int), i64 p.n, i64 (p.th : Int), .slice (some ⟨a.hb, 0, none⟩) p.path.length a.hc, i64 (6), i64 ((t.at_ : Nat)), ptr a.yc, pv, av, i64 (t.live), i64 (3), i64 (0), .bool false, i64 (0)], rowO 3 1 (.slice (some ⟨a.pb, 0, none⟩) p.P.length a.pc) p.P.length (ints p.P), rowO 3 1 (.slice (some ⟨a.lb, 0, none⟩) p.LL.length a.lc) p.LL.length (ints p.LL), rowO 3 1 (.slice (some ⟨a.hb, 0, none⟩) p.path.length a.hc) p.path.length (ints (nats p.path)), r11O a.C p.K p.th a.yc c, refO B m c.W c.L] w3 from Sx.ungroup _ hs)
  clear hs qy
  obtain ⟨_, ⟨hb, _⟩, _⟩ := Sx.get (show Sx R w0 [Ass.blk y 71 [i64 p.tt, i64 (p.s : Int), i64 p.g, i64 p.lm, i64 p.r, i64 (p.K : Int), .slice (some ⟨a.pb, 0, none⟩) p.P.length a.pc, .slice (some ⟨a.lb, 0, none⟩) p.LL.length a.lc, i64 (p.nd : Int), i64 p.n, i64 (p.th : Int), .slice (some ⟨a.hb, 0, none⟩) p.path.length a.hc, i64 (6), i64 ((t.at_ : Nat)), ptr a.yc, pv, av, i64 (t.live), i64 (3), i64 (0), .bool false, i64 (0)], rowO 3 1 (.slice (some ⟨a.pb, 0, none⟩) p.P.length a.pc) p.P.length (ints p.P), rowO 3 1 (.slice (some ⟨a.lb, 0, none⟩) p.LL.length a.lc) p.LL.length (ints p.LL), rowO 3 1 (.slice (some ⟨a.hb, 0, none⟩) p.path.length a.hc) p.path.length (ints (nats p.path)), r11O a.C p.K p.th a.yc c, refO B m c.W c.L] w3 from (show Sx R w0 [Ass.blk y 71 [i64 p.tt, i64 (p.s : Int), i64 p.g, i64 p.lm, i64 p.r, i64 (p.K : Int), .slice (some ⟨a.pb, 0, none⟩) p.P.length a.pc, .slice (some ⟨a.lb, 0, none⟩) p.LL.length a.lc, i64 (p.nd : Int), i64 p.n, i64 (p.th : Int), .slice (some ⟨a.hb, 0, none⟩) p.path.length a.hc, i64 (6), i64 ((t.at_ : Nat)), ptr a.yc, pv, av, i64 (t.live), i64 (3), i64 (0), .bool false, i64 (0)], rowO 3 1 (.slice (some ⟨a.pb, 0, none⟩) p.P.length a.pc) p.P.length (ints p.P), rowO 3 1 (.slice (some ⟨a.lb, 0, none⟩) p.LL.length a.lc) p.LL.length (ints p.LL), rowO 3 1 (.slice (some ⟨a.hb, 0, none⟩) p.path.length a.hc) p.path.length (ints (nats p.path)), r11O a.C p.K p.th a.yc c, refO B m c.W c.L] w3 from by repeat (with_reducible first | exact HS.out | apply Sx.alloc | apply Sx.drewN | apply Sx.drew)))
  have qy := hb.k22
  clear hb
  go_wp2_with fail
  go_ret
  exact ⟨rfl, (show Sx R w0 [refO B m c.W c.L, Ass.blk y 71 [i64 p.tt, i64 (p.s : Int), i64 p.g, i64 p.lm, i64 p.r, i64 (p.K : Int), .slice (some ⟨a.pb, 0, none⟩) p.P.length a.pc, .slice (some ⟨a.lb, 0, none⟩) p.LL.length a.lc, i64 (p.nd : Int), i64 p.n, i64 (p.th : Int), .slice (some ⟨a.hb, 0, none⟩) p.path.length a.hc, i64 (6), i64 ((t.at_ : Nat)), ptr a.yc, pv, av, i64 (t.live), i64 (3), i64 (0), .bool false, i64 (0)], rowO 3 1 (.slice (some ⟨a.pb, 0, none⟩) p.P.length a.pc) p.P.length (ints p.P), rowO 3 1 (.slice (some ⟨a.lb, 0, none⟩) p.LL.length a.lc) p.LL.length (ints p.LL), rowO 3 1 (.slice (some ⟨a.hb, 0, none⟩) p.path.length a.hc) p.path.length (ints (nats p.path)), r11O a.C p.K p.th a.yc c] _ from (Sx.pick (Sx.pick (Sx.pick (Sx.pick (Sx.pick (Sx.pick (show Sx R w0 [Ass.blk y 71 [i64 p.tt, i64 (p.s : Int), i64 p.g, i64 p.lm, i64 p.r, i64 (p.K : Int), .slice (some ⟨a.pb, 0, none⟩) p.P.length a.pc, .slice (some ⟨a.lb, 0, none⟩) p.LL.length a.lc, i64 (p.nd : Int), i64 p.n, i64 (p.th : Int), .slice (some ⟨a.hb, 0, none⟩) p.path.length a.hc, i64 (6), i64 ((t.at_ : Nat)), ptr a.yc, pv, av, i64 (t.live), i64 (3), i64 (0), .bool false, i64 (0)], rowO 3 1 (.slice (some ⟨a.pb, 0, none⟩) p.P.length a.pc) p.P.length (ints p.P), rowO 3 1 (.slice (some ⟨a.lb, 0, none⟩) p.LL.length a.lc) p.LL.length (ints p.LL), rowO 3 1 (.slice (some ⟨a.hb, 0, none⟩) p.path.length a.hc) p.path.length (ints (nats p.path)), r11O a.C p.K p.th a.yc c, refO B m c.W c.L] _ from by repeat (with_reducible first | exact HS.out | apply Sx.alloc | apply Sx.drewN | apply Sx.drew)) 4 (by simp)) 4 (by simp)) 4 (by simp)) 4 (by simp)) 4 (by simp)) 5 (by simp)))⟩
set_option maxHeartbeats 4000000 in
theorem r12_step0yes (hp : P12OK p) (ha : t.at_ < p.path.length) (hn : t.cl.n < p.K) (hci : CInv p.K p.q t.c) (hco : COk a.C p.K p.q p.K) (hth : p.th ≤ 1000) (hL : t.L.length ≤ 1000000000) (hfin : (cNext p.K p.th p.q t.c).fin = 1) (h : (stars (refO B m t.W t.L :: [Ass.blk y 71 [i64 p.tt, i64 (p.s : Int), i64 p.g, i64 p.lm, i64 p.r, i64 (p.K : Int), .slice (some ⟨a.pb, 0, none⟩) p.P.length a.pc, .slice (some ⟨a.lb, 0, none⟩) p.LL.length a.lc, i64 (p.nd : Int), i64 p.n, i64 (p.th : Int), .slice (some ⟨a.hb, 0, none⟩) p.path.length a.hc, i64 (((0 : Nat) : Int)), i64 ((t.at_ : Nat)), ptr a.yc, pv, av, i64 (t.live), i64 (t.err), i64 (t.on), .bool false, i64 (t.ond)], rowO 3 1 (.slice (some ⟨a.pb, 0, none⟩) p.P.length a.pc) p.P.length (ints p.P), rowO 3 1 (.slice (some ⟨a.lb, 0, none⟩) p.LL.length a.lc) p.LL.length (ints p.LL), rowO 3 1 (.slice (some ⟨a.hb, 0, none⟩) p.path.length a.hc) p.path.length (ints (nats p.path)), r11O a.C p.K p.th a.yc t.cl])).At R w) :
 Calls Try.prog 37 #[ptr y, ptr m] w fun e w' => ∃ v : Value, e = .returned (.bool false) ∧ Tr (stars ((refO B m (cNext p.K p.th p.q t.c).W (cNext p.K p.th p.q t.c).L) :: (Ass.ex fun y' : Nat => (r8A p.s p.lm p.K (p.v (t.at_)) p.n p.u y' (po0)).with_ (v = ptr y')) :: [Ass.blk y 71 [i64 p.tt, i64 (p.s : Int), i64 p.g, i64 p.lm, i64 p.r, i64 (p.K : Int), .slice (some ⟨a.pb, 0, none⟩) p.P.length a.pc, .slice (some ⟨a.lb, 0, none⟩) p.LL.length a.lc, i64 (p.nd : Int), i64 p.n, i64 (p.th : Int), .slice (some ⟨a.hb, 0, none⟩) p.path.length a.hc, i64 (((1 : Nat) : Int)), i64 ((t.at_ : Nat)), ptr a.yc, v, av, i64 (t.live), i64 (t.err), i64 (t.on), .bool false, i64 (t.ond)], rowO 3 1 (.slice (some ⟨a.pb, 0, none⟩) p.P.length a.pc) p.P.length (ints p.P), rowO 3 1 (.slice (some ⟨a.lb, 0, none⟩) p.LL.length a.lc) p.LL.length (ints p.LL), rowO 3 1 (.slice (some ⟨a.hb, 0, none⟩) p.path.length a.hc) p.path.length (ints (nats p.path)), r11O a.C p.K p.th a.yc (cNext p.K p.th p.q t.c)])) R w w' := by
 obtain ⟨w0, hw0⟩ : ∃ v, v = w := ⟨_, rfl⟩
 rw [← hw0] at h ⊢
 have HS := hid (show Sx R w0 [refO B m t.W t.L, Ass.blk y 71 [i64 p.tt, i64 (p.s : Int), i64 p.g, i64 p.lm, i64 p.r, i64 (p.K : Int), .slice (some ⟨a.pb, 0, none⟩) p.P.length a.pc, .slice (some ⟨a.lb, 0, none⟩) p.LL.length a.lc, i64 (p.nd : Int), i64 p.n, i64 (p.th : Int), .slice (some ⟨a.hb, 0, none⟩) p.path.length a.hc, i64 (((0 : Nat) : Int)), i64 ((t.at_ : Nat)), ptr a.yc, pv, av, i64 (t.live), i64 (t.err), i64 (t.on), .bool false, i64 (t.ond)], rowO 3 1 (.slice (some ⟨a.pb, 0, none⟩) p.P.length a.pc) p.P.length (ints p.P), rowO 3 1 (.slice (some ⟨a.lb, 0, none⟩) p.LL.length a.lc) p.LL.length (ints p.LL), rowO 3 1 (.slice (some ⟨a.hb, 0, none⟩) p.path.length a.hc) p.path.length (ints (nats p.path)), r11O a.C p.K p.th a.yc t.cl] w0 from Sx.start h)
 clear h hw0
 obtain ⟨c, hcn⟩ : ∃ c, c = cNext p.K p.th p.q t.c := ⟨_, rfl⟩
 rw [← hcn] at hfin ⊢
 have HCN := hid hcn
 clear hcn
 have hs8 := hp.s8
 have hp1 := hp.p1
 have hk1 := hp.k1
 obtain ⟨ae, hae⟩ : ∃ ae : Int, ae = (if t.cl.fin = 2 then 3 else 0) := ⟨_, rfl⟩
 have HAE := hid hae
 clear hae
 have htk0 := fun w' => ref_Ticket p.tt p.s p.g p.lm p.r p.K (some ⟨a.pb, 0, none⟩) p.P.length a.pc (some ⟨a.lb, 0, none⟩) p.LL.length a.lc (t.cl.n : Int) w' (by omega) (by omega) (by omega) (by omega) (by omega)
 rw [show (p.P.length : Int) * (6 + 2 * (p.s : Int)) + 2 * (t.cl.n : Int) = ((t.tk p : Nat) : Int) from by unfold S12.tk P12.q; push_cast; rfl] at htk0
 have HTK := hid htk0
 clear htk0
 go_enter Try.func37, Try.ntmps37
 go_upto_region 1 with fail
 apply wp_region_text (WI := fun S wx => Keep0 w0 wx) (by kernel_rfl) (by kernel_rfl)
 case hob =>
  iterate 8
   apply Oblig.cons
   case h =>
    intro S w1 hwi hSi hd hcl
    apply StepOk.intro
    intro K hK
    obtain ⟨_, ⟨hb, _⟩, _⟩ := Sx.get (Sx.pick (Sx.keep HS.out hwi) 1 (by simp))
    have qy := hb.k22
    clear hb
    obtain ⟨_, ⟨hcl, _⟩, _⟩ := Sx.get (Sx.pick (Sx.keep HS.out hwi) 5 (by simp))
    go_simp
    apply hK
    · rfl
    · conv => (lhs; whnf)
    · exact hwi
   simp only [put_lit, put_none]
   try dsimp only [List.set_cons_succ, List.set_cons_zero]
  apply Oblig.cons
  case h =>
   intro S w1 hwi hSi hd hcl
   apply StepOk.intro
   intro K hK
   obtain ⟨_, ⟨hb, _⟩, _⟩ := Sx.get (Sx.pick (Sx.keep HS.out hwi) 1 (by simp))
   have qy := hb.k22
   clear hb
   obtain ⟨_, ⟨hcl, _⟩, _⟩ := Sx.get (Sx.pick (Sx.keep HS.out hwi) 5 (by simp))
   go_simp
   refine (show Calls Try.prog 52 _ w1 (Ret (.agg #[i64 ae, i64 (t.cl.n : Int), .bool false, i64 0]) w1) from by have h := r11_Ans t.cl hcl; unfold clAns at h; rw [← HAE.out] at h; exact h).mono ?_
   rintro e w2 ⟨rfl, hk⟩
   apply hK
   · rfl
   · conv => (lhs; whnf)
   · exact Keep0.step hwi hk
  simp only [put_lit, put_none]
  try dsimp only [List.set_cons_succ, List.set_cons_zero]
  apply Oblig.cons
  case h =>
   intro S w1 hwi hSi hd hcl
   apply StepOk.intro
   intro K hK
   obtain ⟨_, ⟨hb, _⟩, _⟩ := Sx.get (Sx.pick (Sx.keep HS.out hwi) 1 (by simp))
   have qy := hb.k22
   clear hb
   obtain ⟨_, ⟨hcl, _⟩, _⟩ := Sx.get (Sx.pick (Sx.keep HS.out hwi) 5 (by simp))
   go_simp
   apply hK
   · rfl
   · conv => (lhs; whnf)
   · exact hwi
  simp only [put_lit, put_none]
  try dsimp only [List.set_cons_succ, List.set_cons_zero]
  apply Oblig.cons
  case h =>
   intro S w1 hwi hSi hd hcl
   apply StepOk.intro
   intro K hK
   go_simp
   refine (HTK.out _).mono ?_
   rintro e w2 ⟨rfl, hk⟩
   apply hK
   · rfl
   · conv => (lhs; whnf)
   · exact Keep0.step hwi hk
  simp only [put_lit, put_none]
  try dsimp only [List.set_cons_succ, List.set_cons_zero]
  apply Oblig.cons
  case h =>
   intro S w1 hwi hSi hd hcl
   apply StepOk.intro
   intro K hK
   obtain ⟨_, ⟨hb, _⟩, _⟩ := Sx.get (Sx.pick (Sx.keep HS.out hwi) 1 (by simp))
   have qy := hb.k22
   clear hb
   obtain ⟨_, ⟨hcl, _⟩, _⟩ := Sx.get (Sx.pick (Sx.keep HS.out hwi) 5 (by simp))
   go_simp
   apply hK
   · rfl
   · conv => (lhs; whnf)
   · exact hwi
  simp only [put_lit, put_none]
  try dsimp only [List.set_cons_succ, List.set_cons_zero]
  exact Oblig.nil
 case h0 =>
  exact (Keep.refl _ _).drew
 case hend =>
  intro S wx hwi hall
  have hkx := hwi
  obtain ⟨w1, hwn⟩ : ∃ v, v = wx := ⟨_, rfl⟩
  rw [← hwn] at hkx ⊢
  have hs := hid (show Sx R w0 [refO B m t.W t.L, Ass.blk y 71 [i64 p.tt, i64 (p.s : Int), i64 p.g, i64 p.lm, i64 p.r, i64 (p.K : Int), .slice (some ⟨a.pb, 0, none⟩) p.P.length a.pc, .slice (some ⟨a.lb, 0, none⟩) p.LL.length a.lc, i64 (p.nd : Int), i64 p.n, i64 (p.th : Int), .slice (some ⟨a.hb, 0, none⟩) p.path.length a.hc, i64 (((0 : Nat) : Int)), i64 ((t.at_ : Nat)), ptr a.yc, pv, av, i64 (t.live), i64 (t.err), i64 (t.on), .bool false, i64 (t.ond)], rowO 3 1 (.slice (some ⟨a.pb, 0, none⟩) p.P.length a.pc) p.P.length (ints p.P), rowO 3 1 (.slice (some ⟨a.lb, 0, none⟩) p.LL.length a.lc) p.LL.length (ints p.LL), rowO 3 1 (.slice (some ⟨a.hb, 0, none⟩) p.path.length a.hc) p.path.length (ints (nats p.path)), r11O a.C p.K p.th a.yc t.cl] w1 from Sx.keep HS.out hkx)
  clear hwi hall hkx hwn HS
  have HS := hs
  clear hs
  obtain ⟨_, ⟨hb, _⟩, _⟩ := Sx.get (show Sx R w0 [Ass.blk y 71 [i64 p.tt, i64 (p.s : Int), i64 p.g, i64 p.lm, i64 p.r, i64 (p.K : Int), .slice (some ⟨a.pb, 0, none⟩) p.P.length a.pc, .slice (some ⟨a.lb, 0, none⟩) p.LL.length a.lc, i64 (p.nd : Int), i64 p.n, i64 (p.th : Int), .slice (some ⟨a.hb, 0, none⟩) p.path.length a.hc, i64 (((0 : Nat) : Int)), i64 ((t.at_ : Nat)), ptr a.yc, pv, av, i64 (t.live), i64 (t.err), i64 (t.on), .bool false, i64 (t.ond)], refO B m t.W t.L, rowO 3 1 (.slice (some ⟨a.pb, 0, none⟩) p.P.length a.pc) p.P.length (ints p.P), rowO 3 1 (.slice (some ⟨a.lb, 0, none⟩) p.LL.length a.lc) p.LL.length (ints p.LL), rowO 3 1 (.slice (some ⟨a.hb, 0, none⟩) p.path.length a.hc) p.path.length (ints (nats p.path)), r11O a.C p.K p.th a.yc t.cl] w1 from (Sx.pick (show Sx R w0 [refO B m t.W t.L, Ass.blk y 71 [i64 p.tt, i64 (p.s : Int), i64 p.g, i64 p.lm, i64 p.r, i64 (p.K : Int), .slice (some ⟨a.pb, 0, none⟩) p.P.length a.pc, .slice (some ⟨a.lb, 0, none⟩) p.LL.length a.lc, i64 (p.nd : Int), i64 p.n, i64 (p.th : Int), .slice (some ⟨a.hb, 0, none⟩) p.path.length a.hc, i64 (((0 : Nat) : Int)), i64 ((t.at_ : Nat)), ptr a.yc, pv, av, i64 (t.live), i64 (t.err), i64 (t.on), .bool false, i64 (t.ond)], rowO 3 1 (.slice (some ⟨a.pb, 0, none⟩) p.P.length a.pc) p.P.length (ints p.P), rowO 3 1 (.slice (some ⟨a.lb, 0, none⟩) p.LL.length a.lc) p.LL.length (ints p.LL), rowO 3 1 (.slice (some ⟨a.hb, 0, none⟩) p.path.length a.hc) p.path.length (ints (nats p.path)), r11O a.C p.K p.th a.yc t.cl] w1 from by repeat (with_reducible first | exact HS.out | apply Sx.alloc | apply Sx.drewN | apply Sx.drew)) 1 (by simp)))
  have qy := hb.k22
  clear hb
  go_wp2_with fail
  refine Calls.mono (Sx.call (q := Ass.star (refO B m c.W c.L) (r11O a.C p.K p.th a.yc c)) (Sx.pair (show Sx R w0 [refO B m t.W t.L, r11O a.C p.K p.th a.yc t.cl, Ass.blk y 71 [i64 p.tt, i64 (p.s : Int), i64 p.g, i64 p.lm, i64 p.r, i64 (p.K : Int), .slice (some ⟨a.pb, 0, none⟩) p.P.length a.pc, .slice (some ⟨a.lb, 0, none⟩) p.LL.length a.lc, i64 (p.nd : Int), i64 p.n, i64 (p.th : Int), .slice (some ⟨a.hb, 0, none⟩) p.path.length a.hc, i64 (((0 : Nat) : Int)), i64 ((t.at_ : Nat)), ptr a.yc, pv, av, i64 (t.live), i64 (t.err), i64 (t.on), .bool false, i64 (t.ond)], rowO 3 1 (.slice (some ⟨a.pb, 0, none⟩) p.P.length a.pc) p.P.length (ints p.P), rowO 3 1 (.slice (some ⟨a.lb, 0, none⟩) p.LL.length a.lc) p.LL.length (ints p.LL), rowO 3 1 (.slice (some ⟨a.hb, 0, none⟩) p.path.length a.hc) p.path.length (ints (nats p.path))] _ from (Sx.pick (Sx.pick (show Sx R w0 [refO B m t.W t.L, Ass.blk y 71 [i64 p.tt, i64 (p.s : Int), i64 p.g, i64 p.lm, i64 p.r, i64 (p.K : Int), .slice (some ⟨a.pb, 0, none⟩) p.P.length a.pc, .slice (some ⟨a.lb, 0, none⟩) p.LL.length a.lc, i64 (p.nd : Int), i64 p.n, i64 (p.th : Int), .slice (some ⟨a.hb, 0, none⟩) p.path.length a.hc, i64 (((0 : Nat) : Int)), i64 ((t.at_ : Nat)), ptr a.yc, pv, av, i64 (t.live), i64 (t.err), i64 (t.on), .bool false, i64 (t.ond)], rowO 3 1 (.slice (some ⟨a.pb, 0, none⟩) p.P.length a.pc) p.P.length (ints p.P), rowO 3 1 (.slice (some ⟨a.lb, 0, none⟩) p.LL.length a.lc) p.LL.length (ints p.LL), rowO 3 1 (.slice (some ⟨a.hb, 0, none⟩) p.path.length a.hc) p.path.length (ints (nats p.path)), r11O a.C p.K p.th a.yc t.cl] _ from by repeat (with_reducible first | exact HS.out | apply Sx.alloc | apply Sx.drewN | apply Sx.drew)) 5 (by simp)) 1 (by simp)))) (fun Rq hr hz => (show Calls Try.prog 53 _ _ (fun e w' => e = .returned (.bool (decide (c.fin ≠ 0))) ∧ Tr _ Rq _ w') from by rw [HCN.out]; exact r11O_Step (t := t.c) hr hci hco (by omega) hL))) ?_
  rintro e w2 ⟨rfl, hs⟩
  clear HS
  have HS := hid (show Sx R w0 [refO B m c.W c.L, r11O a.C p.K p.th a.yc c, Ass.blk y 71 [i64 p.tt, i64 (p.s : Int), i64 p.g, i64 p.lm, i64 p.r, i64 (p.K : Int), .slice (some ⟨a.pb, 0, none⟩) p.P.length a.pc, .slice (some ⟨a.lb, 0, none⟩) p.LL.length a.lc, i64 (p.nd : Int), i64 p.n, i64 (p.th : Int), .slice (some ⟨a.hb, 0, none⟩) p.path.length a.hc, i64 (((0 : Nat) : Int)), i64 ((t.at_ : Nat)), ptr a.yc, pv, av, i64 (t.live), i64 (t.err), i64 (t.on), .bool false, i64 (t.ond)], rowO 3 1 (.slice (some ⟨a.pb, 0, none⟩) p.P.length a.pc) p.P.length (ints p.P), rowO 3 1 (.slice (some ⟨a.lb, 0, none⟩) p.LL.length a.lc) p.LL.length (ints p.LL), rowO 3 1 (.slice (some ⟨a.hb, 0, none⟩) p.path.length a.hc) p.path.length (ints (nats p.path))] w2 from Sx.part hs)
  clear hs
  clear qy
  obtain ⟨_, ⟨hb, _⟩, _⟩ := Sx.get (show Sx R w0 [Ass.blk y 71 [i64 p.tt, i64 (p.s : Int), i64 p.g, i64 p.lm, i64 p.r, i64 (p.K : Int), .slice (some ⟨a.pb, 0, none⟩) p.P.length a.pc, .slice (some ⟨a.lb, 0, none⟩) p.LL.length a.lc, i64 (p.nd : Int), i64 p.n, i64 (p.th : Int), .slice (some ⟨a.hb, 0, none⟩) p.path.length a.hc, i64 (((0 : Nat) : Int)), i64 ((t.at_ : Nat)), ptr a.yc, pv, av, i64 (t.live), i64 (t.err), i64 (t.on), .bool false, i64 (t.ond)], refO B m c.W c.L, r11O a.C p.K p.th a.yc c, rowO 3 1 (.slice (some ⟨a.pb, 0, none⟩) p.P.length a.pc) p.P.length (ints p.P), rowO 3 1 (.slice (some ⟨a.lb, 0, none⟩) p.LL.length a.lc) p.LL.length (ints p.LL), rowO 3 1 (.slice (some ⟨a.hb, 0, none⟩) p.path.length a.hc) p.path.length (ints (nats p.path))] w2 from (Sx.pick (show Sx R w0 [refO B m c.W c.L, r11O a.C p.K p.th a.yc c, Ass.blk y 71 [i64 p.tt, i64 (p.s : Int), i64 p.g, i64 p.lm, i64 p.r, i64 (p.K : Int), .slice (some ⟨a.pb, 0, none⟩) p.P.length a.pc, .slice (some ⟨a.lb, 0, none⟩) p.LL.length a.lc, i64 (p.nd : Int), i64 p.n, i64 (p.th : Int), .slice (some ⟨a.hb, 0, none⟩) p.path.length a.hc, i64 (((0 : Nat) : Int)), i64 ((t.at_ : Nat)), ptr a.yc, pv, av, i64 (t.live), i64 (t.err), i64 (t.on), .bool false, i64 (t.ond)], rowO 3 1 (.slice (some ⟨a.pb, 0, none⟩) p.P.length a.pc) p.P.length (ints p.P), rowO 3 1 (.slice (some ⟨a.lb, 0, none⟩) p.LL.length a.lc) p.LL.length (ints p.LL), rowO 3 1 (.slice (some ⟨a.hb, 0, none⟩) p.path.length a.hc) p.path.length (ints (nats p.path))] w2 from by repeat (with_reducible first | exact HS.out | apply Sx.alloc | apply Sx.drewN | apply Sx.drew)) 2 (by simp)))
  have qy := hb.k22
  clear hb
  have g1 : decide (c.fin ≠ 0) = true := by simp [hfin]
  rw [g1]
  clear g1
  go_wp2_with fail
  have hs := hid (show Sx R w0 [Ass.blk y 71 [i64 p.tt, i64 (p.s : Int), i64 p.g, i64 p.lm, i64 p.r, i64 (p.K : Int), .slice (some ⟨a.pb, 0, none⟩) p.P.length a.pc, .slice (some ⟨a.lb, 0, none⟩) p.LL.length a.lc, i64 (p.nd : Int), i64 p.n, i64 (p.th : Int), .slice (some ⟨a.hb, 0, none⟩) p.path.length a.hc, i64 (((0 : Nat) : Int)), i64 ((t.at_ : Nat)), ptr a.yc, pv, av, i64 (t.live), i64 (t.err), i64 (t.on), .bool false, i64 (t.ond)], rowO 3 1 (.slice (some ⟨a.pb, 0, none⟩) p.P.length a.pc) p.P.length (ints p.P), rowO 3 1 (.slice (some ⟨a.lb, 0, none⟩) p.LL.length a.lc) p.LL.length (ints p.LL), rowO 3 1 (.slice (some ⟨a.hb, 0, none⟩) p.path.length a.hc) p.path.length (ints (nats p.path)), r11O a.C p.K p.th a.yc c, refO B m c.W c.L] w2 from (Sx.pick (Sx.pick (Sx.pick (Sx.pick (Sx.pick (show Sx R w0 [refO B m c.W c.L, r11O a.C p.K p.th a.yc c, Ass.blk y 71 [i64 p.tt, i64 (p.s : Int), i64 p.g, i64 p.lm, i64 p.r, i64 (p.K : Int), .slice (some ⟨a.pb, 0, none⟩) p.P.length a.pc, .slice (some ⟨a.lb, 0, none⟩) p.LL.length a.lc, i64 (p.nd : Int), i64 p.n, i64 (p.th : Int), .slice (some ⟨a.hb, 0, none⟩) p.path.length a.hc, i64 (((0 : Nat) : Int)), i64 ((t.at_ : Nat)), ptr a.yc, pv, av, i64 (t.live), i64 (t.err), i64 (t.on), .bool false, i64 (t.ond)], rowO 3 1 (.slice (some ⟨a.pb, 0, none⟩) p.P.length a.pc) p.P.length (ints p.P), rowO 3 1 (.slice (some ⟨a.lb, 0, none⟩) p.LL.length a.lc) p.LL.length (ints p.LL), rowO 3 1 (.slice (some ⟨a.hb, 0, none⟩) p.path.length a.hc) p.path.length (ints (nats p.path))] w2 from by repeat (with_reducible first | exact HS.out | apply Sx.alloc | apply Sx.drewN | apply Sx.drew)) 1 (by simp)) 5 (by simp)) 5 (by simp)) 5 (by simp)) 5 (by simp)))
  clear HS
  have HS := hs
  clear hs
  refine Calls.mono (Sx.callx (Sx.group [Ass.blk y 71 [i64 p.tt, i64 (p.s : Int), i64 p.g, i64 p.lm, i64 p.r, i64 (p.K : Int), .slice (some ⟨a.pb, 0, none⟩) p.P.length a.pc, .slice (some ⟨a.lb, 0, none⟩) p.LL.length a.lc, i64 (p.nd : Int), i64 p.n, i64 (p.th : Int), .slice (some ⟨a.hb, 0, none⟩) p.path.length a.hc, i64 (((0 : Nat) : Int)), i64 ((t.at_ : Nat)), ptr a.yc, pv, av, i64 (t.live), i64 (t.err), i64 (t.on), .bool false, i64 (t.ond)], rowO 3 1 (.slice (some ⟨a.pb, 0, none⟩) p.P.length a.pc) p.P.length (ints p.P), rowO 3 1 (.slice (some ⟨a.lb, 0, none⟩) p.LL.length a.lc) p.LL.length (ints p.LL), rowO 3 1 (.slice (some ⟨a.hb, 0, none⟩) p.path.length a.hc) p.path.length (ints (nats p.path)), r11O a.C p.K p.th a.yc c] (l := [refO B m c.W c.L]) HS.out) (fun Rq hr _ => r12_claimed_yes (t := { t with ph := 0, cl := c }) (pv := pv) (av := av) hp ha hfin hr)) ?_
  rintro e w3 ⟨v, rfl, hs⟩
  clear HS
  have HS := hid (show Sx R w0 [(Ass.ex fun y' : Nat => (r8A p.s p.lm p.K (p.v (t.at_)) p.n p.u y' (po0)).with_ (v = ptr y')), Ass.blk y 71 [i64 p.tt, i64 (p.s : Int), i64 p.g, i64 p.lm, i64 p.r, i64 (p.K : Int), .slice (some ⟨a.pb, 0, none⟩) p.P.length a.pc, .slice (some ⟨a.lb, 0, none⟩) p.LL.length a.lc, i64 (p.nd : Int), i64 p.n, i64 (p.th : Int), .slice (some ⟨a.hb, 0, none⟩) p.path.length a.hc, i64 (((1 : Nat) : Int)), i64 ((t.at_ : Nat)), ptr a.yc, v, av, i64 (t.live), i64 (t.err), i64 (t.on), .bool false, i64 (t.ond)], rowO 3 1 (.slice (some ⟨a.pb, 0, none⟩) p.P.length a.pc) p.P.length (ints p.P), rowO 3 1 (.slice (some ⟨a.lb, 0, none⟩) p.LL.length a.lc) p.LL.length (ints p.LL), rowO 3 1 (.slice (some ⟨a.hb, 0, none⟩) p.path.length a.hc) p.path.length (ints (nats p.path)), r11O a.C p.K p.th a.yc c, refO B m c.W c.L] w3 from Sx.ungroup _ hs)
  clear hs qy
  obtain ⟨_, ⟨hb, _⟩, _⟩ := Sx.get (show Sx R w0 [Ass.blk y 71 [i64 p.tt, i64 (p.s : Int), i64 p.g, i64 p.lm, i64 p.r, i64 (p.K : Int), .slice (some ⟨a.pb, 0, none⟩) p.P.length a.pc, .slice (some ⟨a.lb, 0, none⟩) p.LL.length a.lc, i64 (p.nd : Int), i64 p.n, i64 (p.th : Int), .slice (some ⟨a.hb, 0, none⟩) p.path.length a.hc, i64 (((1 : Nat) : Int)), i64 ((t.at_ : Nat)), ptr a.yc, v, av, i64 (t.live), i64 (t.err), i64 (t.on), .bool false, i64 (t.ond)], (Ass.ex fun y' : Nat => (r8A p.s p.lm p.K (p.v (t.at_)) p.n p.u y' (po0)).with_ (v = ptr y')), rowO 3 1 (.slice (some ⟨a.pb, 0, none⟩) p.P.length a.pc) p.P.length (ints p.P), rowO 3 1 (.slice (some ⟨a.lb, 0, none⟩) p.LL.length a.lc) p.LL.length (ints p.LL), rowO 3 1 (.slice (some ⟨a.hb, 0, none⟩) p.path.length a.hc) p.path.length (ints (nats p.path)), r11O a.C p.K p.th a.yc c, refO B m c.W c.L] w3 from (Sx.pick (show Sx R w0 [(Ass.ex fun y' : Nat => (r8A p.s p.lm p.K (p.v (t.at_)) p.n p.u y' (po0)).with_ (v = ptr y')), Ass.blk y 71 [i64 p.tt, i64 (p.s : Int), i64 p.g, i64 p.lm, i64 p.r, i64 (p.K : Int), .slice (some ⟨a.pb, 0, none⟩) p.P.length a.pc, .slice (some ⟨a.lb, 0, none⟩) p.LL.length a.lc, i64 (p.nd : Int), i64 p.n, i64 (p.th : Int), .slice (some ⟨a.hb, 0, none⟩) p.path.length a.hc, i64 (((1 : Nat) : Int)), i64 ((t.at_ : Nat)), ptr a.yc, v, av, i64 (t.live), i64 (t.err), i64 (t.on), .bool false, i64 (t.ond)], rowO 3 1 (.slice (some ⟨a.pb, 0, none⟩) p.P.length a.pc) p.P.length (ints p.P), rowO 3 1 (.slice (some ⟨a.lb, 0, none⟩) p.LL.length a.lc) p.LL.length (ints p.LL), rowO 3 1 (.slice (some ⟨a.hb, 0, none⟩) p.path.length a.hc) p.path.length (ints (nats p.path)), r11O a.C p.K p.th a.yc c, refO B m c.W c.L] w3 from by repeat (with_reducible first | exact HS.out | apply Sx.alloc | apply Sx.drewN | apply Sx.drew)) 1 (by simp)))
  have qy := hb.k22
  clear hb
  go_wp2_with fail
  go_ret
  exact ⟨v, rfl, (show Sx R w0 [refO B m c.W c.L, (Ass.ex fun y' : Nat => (r8A p.s p.lm p.K (p.v (t.at_)) p.n p.u y' (po0)).with_ (v = ptr y')), Ass.blk y 71 [i64 p.tt, i64 (p.s : Int), i64 p.g, i64 p.lm, i64 p.r, i64 (p.K : Int), .slice (some ⟨a.pb, 0, none⟩) p.P.length a.pc, .slice (some ⟨a.lb, 0, none⟩) p.LL.length a.lc, i64 (p.nd : Int), i64 p.n, i64 (p.th : Int), .slice (some ⟨a.hb, 0, none⟩) p.path.length a.hc, i64 (((1 : Nat) : Int)), i64 ((t.at_ : Nat)), ptr a.yc, v, av, i64 (t.live), i64 (t.err), i64 (t.on), .bool false, i64 (t.ond)], rowO 3 1 (.slice (some ⟨a.pb, 0, none⟩) p.P.length a.pc) p.P.length (ints p.P), rowO 3 1 (.slice (some ⟨a.lb, 0, none⟩) p.LL.length a.lc) p.LL.length (ints p.LL), rowO 3 1 (.slice (some ⟨a.hb, 0, none⟩) p.path.length a.hc) p.path.length (ints (nats p.path)), r11O a.C p.K p.th a.yc c] _ from (Sx.pick (Sx.pick (Sx.pick (Sx.pick (Sx.pick (Sx.pick (Sx.pick (show Sx R w0 [(Ass.ex fun y' : Nat => (r8A p.s p.lm p.K (p.v (t.at_)) p.n p.u y' (po0)).with_ (v = ptr y')), Ass.blk y 71 [i64 p.tt, i64 (p.s : Int), i64 p.g, i64 p.lm, i64 p.r, i64 (p.K : Int), .slice (some ⟨a.pb, 0, none⟩) p.P.length a.pc, .slice (some ⟨a.lb, 0, none⟩) p.LL.length a.lc, i64 (p.nd : Int), i64 p.n, i64 (p.th : Int), .slice (some ⟨a.hb, 0, none⟩) p.path.length a.hc, i64 (((1 : Nat) : Int)), i64 ((t.at_ : Nat)), ptr a.yc, v, av, i64 (t.live), i64 (t.err), i64 (t.on), .bool false, i64 (t.ond)], rowO 3 1 (.slice (some ⟨a.pb, 0, none⟩) p.P.length a.pc) p.P.length (ints p.P), rowO 3 1 (.slice (some ⟨a.lb, 0, none⟩) p.LL.length a.lc) p.LL.length (ints p.LL), rowO 3 1 (.slice (some ⟨a.hb, 0, none⟩) p.path.length a.hc) p.path.length (ints (nats p.path)), r11O a.C p.K p.th a.yc c, refO B m c.W c.L] _ from by repeat (with_reducible first | exact HS.out | apply Sx.alloc | apply Sx.drewN | apply Sx.drew)) 5 (by simp)) 5 (by simp)) 5 (by simp)) 5 (by simp)) 5 (by simp)) 5 (by simp)) 6 (by simp)))⟩
set_option maxHeartbeats 4000000 in
theorem r12_step1go {yp : Nat} {X : Int} (hp : P12OK p) (ha : t.at_ < p.path.length) (hn : t.cl.n < p.K) (hpi : PInv (p.av (p.v t.at_)) (p.le (p.v t.at_) p.u) p.n p.lm X t.pl) (hX : X ≤ 4398046511104) (hW : t.W.length ≤ 1000000) (hL : t.L.length ≤ 1000000000) (h7 : ¬ (pNext (p.av (p.v t.at_)) (p.le (p.v t.at_) p.u) p.n p.lm t.pl).next = 7) (h : (stars (refO B m t.W t.L :: [Ass.blk y 71 [i64 p.tt, i64 (p.s : Int), i64 p.g, i64 p.lm, i64 p.r, i64 (p.K : Int), .slice (some ⟨a.pb, 0, none⟩) p.P.length a.pc, .slice (some ⟨a.lb, 0, none⟩) p.LL.length a.lc, i64 (p.nd : Int), i64 p.n, i64 (p.th : Int), .slice (some ⟨a.hb, 0, none⟩) p.path.length a.hc, i64 (((1 : Nat) : Int)), i64 ((t.at_ : Nat)), ptr a.yc, ptr yp, av, i64 (t.live), i64 (t.err), i64 (t.on), .bool false, i64 (t.ond)], rowO 3 1 (.slice (some ⟨a.pb, 0, none⟩) p.P.length a.pc) p.P.length (ints p.P), rowO 3 1 (.slice (some ⟨a.lb, 0, none⟩) p.LL.length a.lc) p.LL.length (ints p.LL), rowO 3 1 (.slice (some ⟨a.hb, 0, none⟩) p.path.length a.hc) p.path.length (ints (nats p.path)), r11O a.C p.K p.th a.yc t.cl, r8A p.s p.lm p.K (p.v t.at_) p.n p.u yp t.po])).At R w) :
 Calls Try.prog 37 #[ptr y, ptr m] w fun e w' => e = .returned (.bool false) ∧ Tr (stars ((refO B m (pNext (p.av (p.v t.at_)) (p.le (p.v t.at_) p.u) p.n p.lm t.pl).W (pNext (p.av (p.v t.at_)) (p.le (p.v t.at_) p.u) p.n p.lm t.pl).L) :: r8A p.s p.lm p.K (p.v t.at_) p.n p.u yp (pNext (p.av (p.v t.at_)) (p.le (p.v t.at_) p.u) p.n p.lm t.pl) :: [Ass.blk y 71 [i64 p.tt, i64 (p.s : Int), i64 p.g, i64 p.lm, i64 p.r, i64 (p.K : Int), .slice (some ⟨a.pb, 0, none⟩) p.P.length a.pc, .slice (some ⟨a.lb, 0, none⟩) p.LL.length a.lc, i64 (p.nd : Int), i64 p.n, i64 (p.th : Int), .slice (some ⟨a.hb, 0, none⟩) p.path.length a.hc, i64 (((1 : Nat) : Int)), i64 ((t.at_ : Nat)), ptr a.yc, ptr yp, av, i64 (t.live), i64 (t.err), i64 (t.on), .bool false, i64 (t.ond)], rowO 3 1 (.slice (some ⟨a.pb, 0, none⟩) p.P.length a.pc) p.P.length (ints p.P), rowO 3 1 (.slice (some ⟨a.lb, 0, none⟩) p.LL.length a.lc) p.LL.length (ints p.LL), rowO 3 1 (.slice (some ⟨a.hb, 0, none⟩) p.path.length a.hc) p.path.length (ints (nats p.path)), r11O a.C p.K p.th a.yc t.cl])) R w w' := by
 obtain ⟨w0, hw0⟩ : ∃ v, v = w := ⟨_, rfl⟩
 rw [← hw0] at h ⊢
 have HS := hid (show Sx R w0 [refO B m t.W t.L, Ass.blk y 71 [i64 p.tt, i64 (p.s : Int), i64 p.g, i64 p.lm, i64 p.r, i64 (p.K : Int), .slice (some ⟨a.pb, 0, none⟩) p.P.length a.pc, .slice (some ⟨a.lb, 0, none⟩) p.LL.length a.lc, i64 (p.nd : Int), i64 p.n, i64 (p.th : Int), .slice (some ⟨a.hb, 0, none⟩) p.path.length a.hc, i64 (((1 : Nat) : Int)), i64 ((t.at_ : Nat)), ptr a.yc, ptr yp, av, i64 (t.live), i64 (t.err), i64 (t.on), .bool false, i64 (t.ond)], rowO 3 1 (.slice (some ⟨a.pb, 0, none⟩) p.P.length a.pc) p.P.length (ints p.P), rowO 3 1 (.slice (some ⟨a.lb, 0, none⟩) p.LL.length a.lc) p.LL.length (ints p.LL), rowO 3 1 (.slice (some ⟨a.hb, 0, none⟩) p.path.length a.hc) p.path.length (ints (nats p.path)), r11O a.C p.K p.th a.yc t.cl, r8A p.s p.lm p.K (p.v t.at_) p.n p.u yp t.po] w0 from Sx.start h)
 clear h hw0
 obtain ⟨x, hx⟩ : ∃ x, x = pNext (p.av (p.v t.at_)) (p.le (p.v t.at_) p.u) p.n p.lm t.pl := ⟨_, rfl⟩
 rw [← hx] at h7 ⊢
 have HXN := hid hx
 clear hx
 have hva := hp.v1 ha
 have hua := hp.u1
 have hpl1 := hp.p1
 have hsq := hp.s8
 have hs8 := hp.s8
 have hp1 := hp.p1
 have hk1 := hp.k1
 obtain ⟨ae, hae⟩ : ∃ ae : Int, ae = (if t.cl.fin = 2 then 3 else 0) := ⟨_, rfl⟩
 have HAE := hid hae
 clear hae
 have htk0 := fun w' => ref_Ticket p.tt p.s p.g p.lm p.r p.K (some ⟨a.pb, 0, none⟩) p.P.length a.pc (some ⟨a.lb, 0, none⟩) p.LL.length a.lc (t.cl.n : Int) w' (by omega) (by omega) (by omega) (by omega) (by omega)
 rw [show (p.P.length : Int) * (6 + 2 * (p.s : Int)) + 2 * (t.cl.n : Int) = ((t.tk p : Nat) : Int) from by unfold S12.tk P12.q; push_cast; rfl] at htk0
 have HTK := hid htk0
 clear htk0
 go_enter Try.func37, Try.ntmps37
 go_upto_region 1 with fail
 apply wp_region_text (WI := fun S wx => Keep0 w0 wx) (by kernel_rfl) (by kernel_rfl)
 case hob =>
  iterate 8
   apply Oblig.cons
   case h =>
    intro S w1 hwi hSi hd hcl
    apply StepOk.intro
    intro K hK
    obtain ⟨_, ⟨hb, _⟩, _⟩ := Sx.get (Sx.pick (Sx.keep HS.out hwi) 1 (by simp))
    have qy := hb.k22
    clear hb
    obtain ⟨_, ⟨hcl, _⟩, _⟩ := Sx.get (Sx.pick (Sx.keep HS.out hwi) 5 (by simp))
    go_simp
    apply hK
    · rfl
    · conv => (lhs; whnf)
    · exact hwi
   simp only [put_lit, put_none]
   try dsimp only [List.set_cons_succ, List.set_cons_zero]
  apply Oblig.cons
  case h =>
   intro S w1 hwi hSi hd hcl
   apply StepOk.intro
   intro K hK
   obtain ⟨_, ⟨hb, _⟩, _⟩ := Sx.get (Sx.pick (Sx.keep HS.out hwi) 1 (by simp))
   have qy := hb.k22
   clear hb
   obtain ⟨_, ⟨hcl, _⟩, _⟩ := Sx.get (Sx.pick (Sx.keep HS.out hwi) 5 (by simp))
   go_simp
   refine (show Calls Try.prog 52 _ w1 (Ret (.agg #[i64 ae, i64 (t.cl.n : Int), .bool false, i64 0]) w1) from by have h := r11_Ans t.cl hcl; unfold clAns at h; rw [← HAE.out] at h; exact h).mono ?_
   rintro e w2 ⟨rfl, hk⟩
   apply hK
   · rfl
   · conv => (lhs; whnf)
   · exact Keep0.step hwi hk
  simp only [put_lit, put_none]
  try dsimp only [List.set_cons_succ, List.set_cons_zero]
  apply Oblig.cons
  case h =>
   intro S w1 hwi hSi hd hcl
   apply StepOk.intro
   intro K hK
   obtain ⟨_, ⟨hb, _⟩, _⟩ := Sx.get (Sx.pick (Sx.keep HS.out hwi) 1 (by simp))
   have qy := hb.k22
   clear hb
   obtain ⟨_, ⟨hcl, _⟩, _⟩ := Sx.get (Sx.pick (Sx.keep HS.out hwi) 5 (by simp))
   go_simp
   apply hK
   · rfl
   · conv => (lhs; whnf)
   · exact hwi
  simp only [put_lit, put_none]
  try dsimp only [List.set_cons_succ, List.set_cons_zero]
  apply Oblig.cons
  case h =>
   intro S w1 hwi hSi hd hcl
   apply StepOk.intro
   intro K hK
   go_simp
   refine (HTK.out _).mono ?_
   rintro e w2 ⟨rfl, hk⟩
   apply hK
   · rfl
   · conv => (lhs; whnf)
   · exact Keep0.step hwi hk
  simp only [put_lit, put_none]
  try dsimp only [List.set_cons_succ, List.set_cons_zero]
  apply Oblig.cons
  case h =>
   intro S w1 hwi hSi hd hcl
   apply StepOk.intro
   intro K hK
   obtain ⟨_, ⟨hb, _⟩, _⟩ := Sx.get (Sx.pick (Sx.keep HS.out hwi) 1 (by simp))
   have qy := hb.k22
   clear hb
   obtain ⟨_, ⟨hcl, _⟩, _⟩ := Sx.get (Sx.pick (Sx.keep HS.out hwi) 5 (by simp))
   go_simp
   apply hK
   · rfl
   · conv => (lhs; whnf)
   · exact hwi
  simp only [put_lit, put_none]
  try dsimp only [List.set_cons_succ, List.set_cons_zero]
  exact Oblig.nil
 case h0 =>
  exact (Keep.refl _ _).drew
 case hend =>
  intro S wx hwi hall
  have hkx := hwi
  obtain ⟨w1, hwn⟩ : ∃ v, v = wx := ⟨_, rfl⟩
  rw [← hwn] at hkx ⊢
  have hs := hid (show Sx R w0 [refO B m t.W t.L, Ass.blk y 71 [i64 p.tt, i64 (p.s : Int), i64 p.g, i64 p.lm, i64 p.r, i64 (p.K : Int), .slice (some ⟨a.pb, 0, none⟩) p.P.length a.pc, .slice (some ⟨a.lb, 0, none⟩) p.LL.length a.lc, i64 (p.nd : Int), i64 p.n, i64 (p.th : Int), .slice (some ⟨a.hb, 0, none⟩) p.path.length a.hc, i64 (((1 : Nat) : Int)), i64 ((t.at_ : Nat)), ptr a.yc, ptr yp, av, i64 (t.live), i64 (t.err), i64 (t.on), .bool false, i64 (t.ond)], rowO 3 1 (.slice (some ⟨a.pb, 0, none⟩) p.P.length a.pc) p.P.length (ints p.P), rowO 3 1 (.slice (some ⟨a.lb, 0, none⟩) p.LL.length a.lc) p.LL.length (ints p.LL), rowO 3 1 (.slice (some ⟨a.hb, 0, none⟩) p.path.length a.hc) p.path.length (ints (nats p.path)), r11O a.C p.K p.th a.yc t.cl, r8A p.s p.lm p.K (p.v t.at_) p.n p.u yp t.po] w1 from Sx.keep HS.out hkx)
  clear hwi hall hkx hwn HS
  have HS := hs
  clear hs
  obtain ⟨_, ⟨hb, _⟩, _⟩ := Sx.get (show Sx R w0 [Ass.blk y 71 [i64 p.tt, i64 (p.s : Int), i64 p.g, i64 p.lm, i64 p.r, i64 (p.K : Int), .slice (some ⟨a.pb, 0, none⟩) p.P.length a.pc, .slice (some ⟨a.lb, 0, none⟩) p.LL.length a.lc, i64 (p.nd : Int), i64 p.n, i64 (p.th : Int), .slice (some ⟨a.hb, 0, none⟩) p.path.length a.hc, i64 (((1 : Nat) : Int)), i64 ((t.at_ : Nat)), ptr a.yc, ptr yp, av, i64 (t.live), i64 (t.err), i64 (t.on), .bool false, i64 (t.ond)], refO B m t.W t.L, rowO 3 1 (.slice (some ⟨a.pb, 0, none⟩) p.P.length a.pc) p.P.length (ints p.P), rowO 3 1 (.slice (some ⟨a.lb, 0, none⟩) p.LL.length a.lc) p.LL.length (ints p.LL), rowO 3 1 (.slice (some ⟨a.hb, 0, none⟩) p.path.length a.hc) p.path.length (ints (nats p.path)), r11O a.C p.K p.th a.yc t.cl, r8A p.s p.lm p.K (p.v t.at_) p.n p.u yp t.po] w1 from (Sx.pick (show Sx R w0 [refO B m t.W t.L, Ass.blk y 71 [i64 p.tt, i64 (p.s : Int), i64 p.g, i64 p.lm, i64 p.r, i64 (p.K : Int), .slice (some ⟨a.pb, 0, none⟩) p.P.length a.pc, .slice (some ⟨a.lb, 0, none⟩) p.LL.length a.lc, i64 (p.nd : Int), i64 p.n, i64 (p.th : Int), .slice (some ⟨a.hb, 0, none⟩) p.path.length a.hc, i64 (((1 : Nat) : Int)), i64 ((t.at_ : Nat)), ptr a.yc, ptr yp, av, i64 (t.live), i64 (t.err), i64 (t.on), .bool false, i64 (t.ond)], rowO 3 1 (.slice (some ⟨a.pb, 0, none⟩) p.P.length a.pc) p.P.length (ints p.P), rowO 3 1 (.slice (some ⟨a.lb, 0, none⟩) p.LL.length a.lc) p.LL.length (ints p.LL), rowO 3 1 (.slice (some ⟨a.hb, 0, none⟩) p.path.length a.hc) p.path.length (ints (nats p.path)), r11O a.C p.K p.th a.yc t.cl, r8A p.s p.lm p.K (p.v t.at_) p.n p.u yp t.po] w1 from by repeat (with_reducible first | exact HS.out | apply Sx.alloc | apply Sx.drewN | apply Sx.drew)) 1 (by simp)))
  have qy := hb.k22
  clear hb
  go_wp2_with fail
  refine Calls.mono (Sx.call (q := Ass.star (refO B m x.W x.L) (r8A p.s p.lm p.K (p.v t.at_) p.n p.u yp x)) (Sx.pair (show Sx R w0 [refO B m t.W t.L, r8A p.s p.lm p.K (p.v t.at_) p.n p.u yp t.po, Ass.blk y 71 [i64 p.tt, i64 (p.s : Int), i64 p.g, i64 p.lm, i64 p.r, i64 (p.K : Int), .slice (some ⟨a.pb, 0, none⟩) p.P.length a.pc, .slice (some ⟨a.lb, 0, none⟩) p.LL.length a.lc, i64 (p.nd : Int), i64 p.n, i64 (p.th : Int), .slice (some ⟨a.hb, 0, none⟩) p.path.length a.hc, i64 (((1 : Nat) : Int)), i64 ((t.at_ : Nat)), ptr a.yc, ptr yp, av, i64 (t.live), i64 (t.err), i64 (t.on), .bool false, i64 (t.ond)], rowO 3 1 (.slice (some ⟨a.pb, 0, none⟩) p.P.length a.pc) p.P.length (ints p.P), rowO 3 1 (.slice (some ⟨a.lb, 0, none⟩) p.LL.length a.lc) p.LL.length (ints p.LL), rowO 3 1 (.slice (some ⟨a.hb, 0, none⟩) p.path.length a.hc) p.path.length (ints (nats p.path)), r11O a.C p.K p.th a.yc t.cl] _ from (Sx.pick (Sx.pick (show Sx R w0 [refO B m t.W t.L, Ass.blk y 71 [i64 p.tt, i64 (p.s : Int), i64 p.g, i64 p.lm, i64 p.r, i64 (p.K : Int), .slice (some ⟨a.pb, 0, none⟩) p.P.length a.pc, .slice (some ⟨a.lb, 0, none⟩) p.LL.length a.lc, i64 (p.nd : Int), i64 p.n, i64 (p.th : Int), .slice (some ⟨a.hb, 0, none⟩) p.path.length a.hc, i64 (((1 : Nat) : Int)), i64 ((t.at_ : Nat)), ptr a.yc, ptr yp, av, i64 (t.live), i64 (t.err), i64 (t.on), .bool false, i64 (t.ond)], rowO 3 1 (.slice (some ⟨a.pb, 0, none⟩) p.P.length a.pc) p.P.length (ints p.P), rowO 3 1 (.slice (some ⟨a.lb, 0, none⟩) p.LL.length a.lc) p.LL.length (ints p.LL), rowO 3 1 (.slice (some ⟨a.hb, 0, none⟩) p.path.length a.hc) p.path.length (ints (nats p.path)), r11O a.C p.K p.th a.yc t.cl, r8A p.s p.lm p.K (p.v t.at_) p.n p.u yp t.po] _ from by repeat (with_reducible first | exact HS.out | apply Sx.alloc | apply Sx.drewN | apply Sx.drew)) 6 (by simp)) 1 (by simp)))) (fun Rq hr hz => (show Calls Try.prog 55 _ _ (fun e w' => e = .returned (.bool (decide (x.next = 7))) ∧ Tr _ Rq _ w') from by rw [HXN.out]; exact r8A_Step (x := t.pl) hr hpi hX hL hW (by omega) (by omega) (by omega) (by unfold P12.av; push_cast; rfl) (by unfold P12.le; push_cast; rfl)))) ?_
  rintro e w2 ⟨rfl, hs⟩
  clear HS
  have HS := hid (show Sx R w0 [refO B m x.W x.L, r8A p.s p.lm p.K (p.v t.at_) p.n p.u yp x, Ass.blk y 71 [i64 p.tt, i64 (p.s : Int), i64 p.g, i64 p.lm, i64 p.r, i64 (p.K : Int), .slice (some ⟨a.pb, 0, none⟩) p.P.length a.pc, .slice (some ⟨a.lb, 0, none⟩) p.LL.length a.lc, i64 (p.nd : Int), i64 p.n, i64 (p.th : Int), .slice (some ⟨a.hb, 0, none⟩) p.path.length a.hc, i64 (((1 : Nat) : Int)), i64 ((t.at_ : Nat)), ptr a.yc, ptr yp, av, i64 (t.live), i64 (t.err), i64 (t.on), .bool false, i64 (t.ond)], rowO 3 1 (.slice (some ⟨a.pb, 0, none⟩) p.P.length a.pc) p.P.length (ints p.P), rowO 3 1 (.slice (some ⟨a.lb, 0, none⟩) p.LL.length a.lc) p.LL.length (ints p.LL), rowO 3 1 (.slice (some ⟨a.hb, 0, none⟩) p.path.length a.hc) p.path.length (ints (nats p.path)), r11O a.C p.K p.th a.yc t.cl] w2 from Sx.part hs)
  clear hs
  clear qy
  obtain ⟨_, ⟨hb, _⟩, _⟩ := Sx.get (show Sx R w0 [Ass.blk y 71 [i64 p.tt, i64 (p.s : Int), i64 p.g, i64 p.lm, i64 p.r, i64 (p.K : Int), .slice (some ⟨a.pb, 0, none⟩) p.P.length a.pc, .slice (some ⟨a.lb, 0, none⟩) p.LL.length a.lc, i64 (p.nd : Int), i64 p.n, i64 (p.th : Int), .slice (some ⟨a.hb, 0, none⟩) p.path.length a.hc, i64 (((1 : Nat) : Int)), i64 ((t.at_ : Nat)), ptr a.yc, ptr yp, av, i64 (t.live), i64 (t.err), i64 (t.on), .bool false, i64 (t.ond)], refO B m x.W x.L, r8A p.s p.lm p.K (p.v t.at_) p.n p.u yp x, rowO 3 1 (.slice (some ⟨a.pb, 0, none⟩) p.P.length a.pc) p.P.length (ints p.P), rowO 3 1 (.slice (some ⟨a.lb, 0, none⟩) p.LL.length a.lc) p.LL.length (ints p.LL), rowO 3 1 (.slice (some ⟨a.hb, 0, none⟩) p.path.length a.hc) p.path.length (ints (nats p.path)), r11O a.C p.K p.th a.yc t.cl] w2 from (Sx.pick (show Sx R w0 [refO B m x.W x.L, r8A p.s p.lm p.K (p.v t.at_) p.n p.u yp x, Ass.blk y 71 [i64 p.tt, i64 (p.s : Int), i64 p.g, i64 p.lm, i64 p.r, i64 (p.K : Int), .slice (some ⟨a.pb, 0, none⟩) p.P.length a.pc, .slice (some ⟨a.lb, 0, none⟩) p.LL.length a.lc, i64 (p.nd : Int), i64 p.n, i64 (p.th : Int), .slice (some ⟨a.hb, 0, none⟩) p.path.length a.hc, i64 (((1 : Nat) : Int)), i64 ((t.at_ : Nat)), ptr a.yc, ptr yp, av, i64 (t.live), i64 (t.err), i64 (t.on), .bool false, i64 (t.ond)], rowO 3 1 (.slice (some ⟨a.pb, 0, none⟩) p.P.length a.pc) p.P.length (ints p.P), rowO 3 1 (.slice (some ⟨a.lb, 0, none⟩) p.LL.length a.lc) p.LL.length (ints p.LL), rowO 3 1 (.slice (some ⟨a.hb, 0, none⟩) p.path.length a.hc) p.path.length (ints (nats p.path)), r11O a.C p.K p.th a.yc t.cl] w2 from by repeat (with_reducible first | exact HS.out | apply Sx.alloc | apply Sx.drewN | apply Sx.drew)) 2 (by simp)))
  have qy := hb.k22
  clear hb
  have g1 : decide (x.next = 7) = false := by simp [h7]
  rw [g1]
  go_wp2_with fail
  go_ret
  exact ⟨rfl, (show Sx R w0 [refO B m x.W x.L, r8A p.s p.lm p.K (p.v t.at_) p.n p.u yp x, Ass.blk y 71 [i64 p.tt, i64 (p.s : Int), i64 p.g, i64 p.lm, i64 p.r, i64 (p.K : Int), .slice (some ⟨a.pb, 0, none⟩) p.P.length a.pc, .slice (some ⟨a.lb, 0, none⟩) p.LL.length a.lc, i64 (p.nd : Int), i64 p.n, i64 (p.th : Int), .slice (some ⟨a.hb, 0, none⟩) p.path.length a.hc, i64 (((1 : Nat) : Int)), i64 ((t.at_ : Nat)), ptr a.yc, ptr yp, av, i64 (t.live), i64 (t.err), i64 (t.on), .bool false, i64 (t.ond)], rowO 3 1 (.slice (some ⟨a.pb, 0, none⟩) p.P.length a.pc) p.P.length (ints p.P), rowO 3 1 (.slice (some ⟨a.lb, 0, none⟩) p.LL.length a.lc) p.LL.length (ints p.LL), rowO 3 1 (.slice (some ⟨a.hb, 0, none⟩) p.path.length a.hc) p.path.length (ints (nats p.path)), r11O a.C p.K p.th a.yc t.cl] _ from (Sx.pick (Sx.pick (Sx.pick (Sx.pick (Sx.pick (Sx.pick (Sx.pick (show Sx R w0 [refO B m x.W x.L, r8A p.s p.lm p.K (p.v t.at_) p.n p.u yp x, Ass.blk y 71 [i64 p.tt, i64 (p.s : Int), i64 p.g, i64 p.lm, i64 p.r, i64 (p.K : Int), .slice (some ⟨a.pb, 0, none⟩) p.P.length a.pc, .slice (some ⟨a.lb, 0, none⟩) p.LL.length a.lc, i64 (p.nd : Int), i64 p.n, i64 (p.th : Int), .slice (some ⟨a.hb, 0, none⟩) p.path.length a.hc, i64 (((1 : Nat) : Int)), i64 ((t.at_ : Nat)), ptr a.yc, ptr yp, av, i64 (t.live), i64 (t.err), i64 (t.on), .bool false, i64 (t.ond)], rowO 3 1 (.slice (some ⟨a.pb, 0, none⟩) p.P.length a.pc) p.P.length (ints p.P), rowO 3 1 (.slice (some ⟨a.lb, 0, none⟩) p.LL.length a.lc) p.LL.length (ints p.LL), rowO 3 1 (.slice (some ⟨a.hb, 0, none⟩) p.path.length a.hc) p.path.length (ints (nats p.path)), r11O a.C p.K p.th a.yc t.cl] _ from by repeat (with_reducible first | exact HS.out | apply Sx.alloc | apply Sx.drewN | apply Sx.drew)) 6 (by simp)) 6 (by simp)) 6 (by simp)) 6 (by simp)) 6 (by simp)) 6 (by simp)) 6 (by simp)))⟩
set_option maxHeartbeats 4000000 in
theorem r12_step1bad {yp : Nat} {X : Int} (hp : P12OK p) (ha : t.at_ < p.path.length) (hn : t.cl.n < p.K) (hpi : PInv (p.av (p.v t.at_)) (p.le (p.v t.at_) p.u) p.n p.lm X t.pl) (hX : X ≤ 4398046511104) (hW : t.W.length ≤ 1000000) (hL : t.L.length ≤ 1000000000) (h7 : (pNext (p.av (p.v t.at_)) (p.le (p.v t.at_) p.u) p.n p.lm t.pl).next = 7) (hb : (pNext (p.av (p.v t.at_)) (p.le (p.v t.at_) p.u) p.n p.lm t.pl).bad = true) (h : (stars (refO B m t.W t.L :: [Ass.blk y 71 [i64 p.tt, i64 (p.s : Int), i64 p.g, i64 p.lm, i64 p.r, i64 (p.K : Int), .slice (some ⟨a.pb, 0, none⟩) p.P.length a.pc, .slice (some ⟨a.lb, 0, none⟩) p.LL.length a.lc, i64 (p.nd : Int), i64 p.n, i64 (p.th : Int), .slice (some ⟨a.hb, 0, none⟩) p.path.length a.hc, i64 (((1 : Nat) : Int)), i64 ((t.at_ : Nat)), ptr a.yc, ptr yp, av, i64 (t.live), i64 (t.err), i64 (t.on), .bool false, i64 (t.ond)], rowO 3 1 (.slice (some ⟨a.pb, 0, none⟩) p.P.length a.pc) p.P.length (ints p.P), rowO 3 1 (.slice (some ⟨a.lb, 0, none⟩) p.LL.length a.lc) p.LL.length (ints p.LL), rowO 3 1 (.slice (some ⟨a.hb, 0, none⟩) p.path.length a.hc) p.path.length (ints (nats p.path)), r11O a.C p.K p.th a.yc t.cl, r8A p.s p.lm p.K (p.v t.at_) p.n p.u yp t.po])).At R w) :
 Calls Try.prog 37 #[ptr y, ptr m] w fun e w' => e = .returned (.bool false) ∧ Tr (stars ((refO B m (pNext (p.av (p.v t.at_)) (p.le (p.v t.at_) p.u) p.n p.lm t.pl).W (pNext (p.av (p.v t.at_)) (p.le (p.v t.at_) p.u) p.n p.lm t.pl).L) :: [Ass.blk y 71 [i64 p.tt, i64 (p.s : Int), i64 p.g, i64 p.lm, i64 p.r, i64 (p.K : Int), .slice (some ⟨a.pb, 0, none⟩) p.P.length a.pc, .slice (some ⟨a.lb, 0, none⟩) p.LL.length a.lc, i64 (p.nd : Int), i64 p.n, i64 (p.th : Int), .slice (some ⟨a.hb, 0, none⟩) p.path.length a.hc, i64 (((2 : Nat) : Int)), i64 ((t.at_ : Nat)), ptr a.yc, ptr yp, av, i64 (t.live), i64 (4), i64 (0), .bool false, i64 ((p.v t.at_ : Int))], rowO 3 1 (.slice (some ⟨a.pb, 0, none⟩) p.P.length a.pc) p.P.length (ints p.P), rowO 3 1 (.slice (some ⟨a.lb, 0, none⟩) p.LL.length a.lc) p.LL.length (ints p.LL), rowO 3 1 (.slice (some ⟨a.hb, 0, none⟩) p.path.length a.hc) p.path.length (ints (nats p.path)), r11O a.C p.K p.th a.yc t.cl])) R w w' := by
 obtain ⟨w0, hw0⟩ : ∃ v, v = w := ⟨_, rfl⟩
 rw [← hw0] at h ⊢
 have HS := hid (show Sx R w0 [refO B m t.W t.L, Ass.blk y 71 [i64 p.tt, i64 (p.s : Int), i64 p.g, i64 p.lm, i64 p.r, i64 (p.K : Int), .slice (some ⟨a.pb, 0, none⟩) p.P.length a.pc, .slice (some ⟨a.lb, 0, none⟩) p.LL.length a.lc, i64 (p.nd : Int), i64 p.n, i64 (p.th : Int), .slice (some ⟨a.hb, 0, none⟩) p.path.length a.hc, i64 (((1 : Nat) : Int)), i64 ((t.at_ : Nat)), ptr a.yc, ptr yp, av, i64 (t.live), i64 (t.err), i64 (t.on), .bool false, i64 (t.ond)], rowO 3 1 (.slice (some ⟨a.pb, 0, none⟩) p.P.length a.pc) p.P.length (ints p.P), rowO 3 1 (.slice (some ⟨a.lb, 0, none⟩) p.LL.length a.lc) p.LL.length (ints p.LL), rowO 3 1 (.slice (some ⟨a.hb, 0, none⟩) p.path.length a.hc) p.path.length (ints (nats p.path)), r11O a.C p.K p.th a.yc t.cl, r8A p.s p.lm p.K (p.v t.at_) p.n p.u yp t.po] w0 from Sx.start h)
 clear h hw0
 obtain ⟨x, hx⟩ : ∃ x, x = pNext (p.av (p.v t.at_)) (p.le (p.v t.at_) p.u) p.n p.lm t.pl := ⟨_, rfl⟩
 rw [← hx] at h7 hb ⊢
 have HXN := hid hx
 clear hx
 have hva := hp.v1 ha
 have hua := hp.u1
 have hpl1 := hp.p1
 have hsq := hp.s8
 have hs8 := hp.s8
 have hp1 := hp.p1
 have hk1 := hp.k1
 obtain ⟨ae, hae⟩ : ∃ ae : Int, ae = (if t.cl.fin = 2 then 3 else 0) := ⟨_, rfl⟩
 have HAE := hid hae
 clear hae
 have htk0 := fun w' => ref_Ticket p.tt p.s p.g p.lm p.r p.K (some ⟨a.pb, 0, none⟩) p.P.length a.pc (some ⟨a.lb, 0, none⟩) p.LL.length a.lc (t.cl.n : Int) w' (by omega) (by omega) (by omega) (by omega) (by omega)
 rw [show (p.P.length : Int) * (6 + 2 * (p.s : Int)) + 2 * (t.cl.n : Int) = ((t.tk p : Nat) : Int) from by unfold S12.tk P12.q; push_cast; rfl] at htk0
 have HTK := hid htk0
 clear htk0
 go_enter Try.func37, Try.ntmps37
 go_upto_region 1 with fail
 apply wp_region_text (WI := fun S wx => Keep0 w0 wx) (by kernel_rfl) (by kernel_rfl)
 case hob =>
  iterate 8
   apply Oblig.cons
   case h =>
    intro S w1 hwi hSi hd hcl
    apply StepOk.intro
    intro K hK
    obtain ⟨_, ⟨hb, _⟩, _⟩ := Sx.get (Sx.pick (Sx.keep HS.out hwi) 1 (by simp))
    have qy := hb.k22
    clear hb
    obtain ⟨_, ⟨hcl, _⟩, _⟩ := Sx.get (Sx.pick (Sx.keep HS.out hwi) 5 (by simp))
    go_simp
    apply hK
    · rfl
    · conv => (lhs; whnf)
    · exact hwi
   simp only [put_lit, put_none]
   try dsimp only [List.set_cons_succ, List.set_cons_zero]
  apply Oblig.cons
  case h =>
   intro S w1 hwi hSi hd hcl
   apply StepOk.intro
   intro K hK
   obtain ⟨_, ⟨hb, _⟩, _⟩ := Sx.get (Sx.pick (Sx.keep HS.out hwi) 1 (by simp))
   have qy := hb.k22
   clear hb
   obtain ⟨_, ⟨hcl, _⟩, _⟩ := Sx.get (Sx.pick (Sx.keep HS.out hwi) 5 (by simp))
   go_simp
   refine (show Calls Try.prog 52 _ w1 (Ret (.agg #[i64 ae, i64 (t.cl.n : Int), .bool false, i64 0]) w1) from by have h := r11_Ans t.cl hcl; unfold clAns at h; rw [← HAE.out] at h; exact h).mono ?_
   rintro e w2 ⟨rfl, hk⟩
   apply hK
   · rfl
   · conv => (lhs; whnf)
   · exact Keep0.step hwi hk
  simp only [put_lit, put_none]
  try dsimp only [List.set_cons_succ, List.set_cons_zero]
  apply Oblig.cons
  case h =>
   intro S w1 hwi hSi hd hcl
   apply StepOk.intro
   intro K hK
   obtain ⟨_, ⟨hb, _⟩, _⟩ := Sx.get (Sx.pick (Sx.keep HS.out hwi) 1 (by simp))
   have qy := hb.k22
   clear hb
   obtain ⟨_, ⟨hcl, _⟩, _⟩ := Sx.get (Sx.pick (Sx.keep HS.out hwi) 5 (by simp))
   go_simp
   apply hK
   · rfl
   · conv => (lhs; whnf)
   · exact hwi
  simp only [put_lit, put_none]
  try dsimp only [List.set_cons_succ, List.set_cons_zero]
  apply Oblig.cons
  case h =>
   intro S w1 hwi hSi hd hcl
   apply StepOk.intro
   intro K hK
   go_simp
   refine (HTK.out _).mono ?_
   rintro e w2 ⟨rfl, hk⟩
   apply hK
   · rfl
   · conv => (lhs; whnf)
   · exact Keep0.step hwi hk
  simp only [put_lit, put_none]
  try dsimp only [List.set_cons_succ, List.set_cons_zero]
  apply Oblig.cons
  case h =>
   intro S w1 hwi hSi hd hcl
   apply StepOk.intro
   intro K hK
   obtain ⟨_, ⟨hb, _⟩, _⟩ := Sx.get (Sx.pick (Sx.keep HS.out hwi) 1 (by simp))
   have qy := hb.k22
   clear hb
   obtain ⟨_, ⟨hcl, _⟩, _⟩ := Sx.get (Sx.pick (Sx.keep HS.out hwi) 5 (by simp))
   go_simp
   apply hK
   · rfl
   · conv => (lhs; whnf)
   · exact hwi
  simp only [put_lit, put_none]
  try dsimp only [List.set_cons_succ, List.set_cons_zero]
  exact Oblig.nil
 case h0 =>
  exact (Keep.refl _ _).drew
 case hend =>
  intro S wx hwi hall
  have hkx := hwi
  obtain ⟨w1, hwn⟩ : ∃ v, v = wx := ⟨_, rfl⟩
  rw [← hwn] at hkx ⊢
  have hs := hid (show Sx R w0 [refO B m t.W t.L, Ass.blk y 71 [i64 p.tt, i64 (p.s : Int), i64 p.g, i64 p.lm, i64 p.r, i64 (p.K : Int), .slice (some ⟨a.pb, 0, none⟩) p.P.length a.pc, .slice (some ⟨a.lb, 0, none⟩) p.LL.length a.lc, i64 (p.nd : Int), i64 p.n, i64 (p.th : Int), .slice (some ⟨a.hb, 0, none⟩) p.path.length a.hc, i64 (((1 : Nat) : Int)), i64 ((t.at_ : Nat)), ptr a.yc, ptr yp, av, i64 (t.live), i64 (t.err), i64 (t.on), .bool false, i64 (t.ond)], rowO 3 1 (.slice (some ⟨a.pb, 0, none⟩) p.P.length a.pc) p.P.length (ints p.P), rowO 3 1 (.slice (some ⟨a.lb, 0, none⟩) p.LL.length a.lc) p.LL.length (ints p.LL), rowO 3 1 (.slice (some ⟨a.hb, 0, none⟩) p.path.length a.hc) p.path.length (ints (nats p.path)), r11O a.C p.K p.th a.yc t.cl, r8A p.s p.lm p.K (p.v t.at_) p.n p.u yp t.po] w1 from Sx.keep HS.out hkx)
  clear hwi hall hkx hwn HS
  have HS := hs
  clear hs
  obtain ⟨_, ⟨hb, _⟩, _⟩ := Sx.get (show Sx R w0 [Ass.blk y 71 [i64 p.tt, i64 (p.s : Int), i64 p.g, i64 p.lm, i64 p.r, i64 (p.K : Int), .slice (some ⟨a.pb, 0, none⟩) p.P.length a.pc, .slice (some ⟨a.lb, 0, none⟩) p.LL.length a.lc, i64 (p.nd : Int), i64 p.n, i64 (p.th : Int), .slice (some ⟨a.hb, 0, none⟩) p.path.length a.hc, i64 (((1 : Nat) : Int)), i64 ((t.at_ : Nat)), ptr a.yc, ptr yp, av, i64 (t.live), i64 (t.err), i64 (t.on), .bool false, i64 (t.ond)], refO B m t.W t.L, rowO 3 1 (.slice (some ⟨a.pb, 0, none⟩) p.P.length a.pc) p.P.length (ints p.P), rowO 3 1 (.slice (some ⟨a.lb, 0, none⟩) p.LL.length a.lc) p.LL.length (ints p.LL), rowO 3 1 (.slice (some ⟨a.hb, 0, none⟩) p.path.length a.hc) p.path.length (ints (nats p.path)), r11O a.C p.K p.th a.yc t.cl, r8A p.s p.lm p.K (p.v t.at_) p.n p.u yp t.po] w1 from (Sx.pick (show Sx R w0 [refO B m t.W t.L, Ass.blk y 71 [i64 p.tt, i64 (p.s : Int), i64 p.g, i64 p.lm, i64 p.r, i64 (p.K : Int), .slice (some ⟨a.pb, 0, none⟩) p.P.length a.pc, .slice (some ⟨a.lb, 0, none⟩) p.LL.length a.lc, i64 (p.nd : Int), i64 p.n, i64 (p.th : Int), .slice (some ⟨a.hb, 0, none⟩) p.path.length a.hc, i64 (((1 : Nat) : Int)), i64 ((t.at_ : Nat)), ptr a.yc, ptr yp, av, i64 (t.live), i64 (t.err), i64 (t.on), .bool false, i64 (t.ond)], rowO 3 1 (.slice (some ⟨a.pb, 0, none⟩) p.P.length a.pc) p.P.length (ints p.P), rowO 3 1 (.slice (some ⟨a.lb, 0, none⟩) p.LL.length a.lc) p.LL.length (ints p.LL), rowO 3 1 (.slice (some ⟨a.hb, 0, none⟩) p.path.length a.hc) p.path.length (ints (nats p.path)), r11O a.C p.K p.th a.yc t.cl, r8A p.s p.lm p.K (p.v t.at_) p.n p.u yp t.po] w1 from by repeat (with_reducible first | exact HS.out | apply Sx.alloc | apply Sx.drewN | apply Sx.drew)) 1 (by simp)))
  have qy := hb.k22
  clear hb
  go_wp2_with fail
  refine Calls.mono (Sx.call (q := Ass.star (refO B m x.W x.L) (r8A p.s p.lm p.K (p.v t.at_) p.n p.u yp x)) (Sx.pair (show Sx R w0 [refO B m t.W t.L, r8A p.s p.lm p.K (p.v t.at_) p.n p.u yp t.po, Ass.blk y 71 [i64 p.tt, i64 (p.s : Int), i64 p.g, i64 p.lm, i64 p.r, i64 (p.K : Int), .slice (some ⟨a.pb, 0, none⟩) p.P.length a.pc, .slice (some ⟨a.lb, 0, none⟩) p.LL.length a.lc, i64 (p.nd : Int), i64 p.n, i64 (p.th : Int), .slice (some ⟨a.hb, 0, none⟩) p.path.length a.hc, i64 (((1 : Nat) : Int)), i64 ((t.at_ : Nat)), ptr a.yc, ptr yp, av, i64 (t.live), i64 (t.err), i64 (t.on), .bool false, i64 (t.ond)], rowO 3 1 (.slice (some ⟨a.pb, 0, none⟩) p.P.length a.pc) p.P.length (ints p.P), rowO 3 1 (.slice (some ⟨a.lb, 0, none⟩) p.LL.length a.lc) p.LL.length (ints p.LL), rowO 3 1 (.slice (some ⟨a.hb, 0, none⟩) p.path.length a.hc) p.path.length (ints (nats p.path)), r11O a.C p.K p.th a.yc t.cl] _ from (Sx.pick (Sx.pick (show Sx R w0 [refO B m t.W t.L, Ass.blk y 71 [i64 p.tt, i64 (p.s : Int), i64 p.g, i64 p.lm, i64 p.r, i64 (p.K : Int), .slice (some ⟨a.pb, 0, none⟩) p.P.length a.pc, .slice (some ⟨a.lb, 0, none⟩) p.LL.length a.lc, i64 (p.nd : Int), i64 p.n, i64 (p.th : Int), .slice (some ⟨a.hb, 0, none⟩) p.path.length a.hc, i64 (((1 : Nat) : Int)), i64 ((t.at_ : Nat)), ptr a.yc, ptr yp, av, i64 (t.live), i64 (t.err), i64 (t.on), .bool false, i64 (t.ond)], rowO 3 1 (.slice (some ⟨a.pb, 0, none⟩) p.P.length a.pc) p.P.length (ints p.P), rowO 3 1 (.slice (some ⟨a.lb, 0, none⟩) p.LL.length a.lc) p.LL.length (ints p.LL), rowO 3 1 (.slice (some ⟨a.hb, 0, none⟩) p.path.length a.hc) p.path.length (ints (nats p.path)), r11O a.C p.K p.th a.yc t.cl, r8A p.s p.lm p.K (p.v t.at_) p.n p.u yp t.po] _ from by repeat (with_reducible first | exact HS.out | apply Sx.alloc | apply Sx.drewN | apply Sx.drew)) 6 (by simp)) 1 (by simp)))) (fun Rq hr hz => (show Calls Try.prog 55 _ _ (fun e w' => e = .returned (.bool (decide (x.next = 7))) ∧ Tr _ Rq _ w') from by rw [HXN.out]; exact r8A_Step (x := t.pl) hr hpi hX hL hW (by omega) (by omega) (by omega) (by unfold P12.av; push_cast; rfl) (by unfold P12.le; push_cast; rfl)))) ?_
  rintro e w2 ⟨rfl, hs⟩
  clear HS
  have HS := hid (show Sx R w0 [refO B m x.W x.L, r8A p.s p.lm p.K (p.v t.at_) p.n p.u yp x, Ass.blk y 71 [i64 p.tt, i64 (p.s : Int), i64 p.g, i64 p.lm, i64 p.r, i64 (p.K : Int), .slice (some ⟨a.pb, 0, none⟩) p.P.length a.pc, .slice (some ⟨a.lb, 0, none⟩) p.LL.length a.lc, i64 (p.nd : Int), i64 p.n, i64 (p.th : Int), .slice (some ⟨a.hb, 0, none⟩) p.path.length a.hc, i64 (((1 : Nat) : Int)), i64 ((t.at_ : Nat)), ptr a.yc, ptr yp, av, i64 (t.live), i64 (t.err), i64 (t.on), .bool false, i64 (t.ond)], rowO 3 1 (.slice (some ⟨a.pb, 0, none⟩) p.P.length a.pc) p.P.length (ints p.P), rowO 3 1 (.slice (some ⟨a.lb, 0, none⟩) p.LL.length a.lc) p.LL.length (ints p.LL), rowO 3 1 (.slice (some ⟨a.hb, 0, none⟩) p.path.length a.hc) p.path.length (ints (nats p.path)), r11O a.C p.K p.th a.yc t.cl] w2 from Sx.part hs)
  clear hs
  clear qy
  obtain ⟨_, ⟨hb, _⟩, _⟩ := Sx.get (show Sx R w0 [Ass.blk y 71 [i64 p.tt, i64 (p.s : Int), i64 p.g, i64 p.lm, i64 p.r, i64 (p.K : Int), .slice (some ⟨a.pb, 0, none⟩) p.P.length a.pc, .slice (some ⟨a.lb, 0, none⟩) p.LL.length a.lc, i64 (p.nd : Int), i64 p.n, i64 (p.th : Int), .slice (some ⟨a.hb, 0, none⟩) p.path.length a.hc, i64 (((1 : Nat) : Int)), i64 ((t.at_ : Nat)), ptr a.yc, ptr yp, av, i64 (t.live), i64 (t.err), i64 (t.on), .bool false, i64 (t.ond)], refO B m x.W x.L, r8A p.s p.lm p.K (p.v t.at_) p.n p.u yp x, rowO 3 1 (.slice (some ⟨a.pb, 0, none⟩) p.P.length a.pc) p.P.length (ints p.P), rowO 3 1 (.slice (some ⟨a.lb, 0, none⟩) p.LL.length a.lc) p.LL.length (ints p.LL), rowO 3 1 (.slice (some ⟨a.hb, 0, none⟩) p.path.length a.hc) p.path.length (ints (nats p.path)), r11O a.C p.K p.th a.yc t.cl] w2 from (Sx.pick (show Sx R w0 [refO B m x.W x.L, r8A p.s p.lm p.K (p.v t.at_) p.n p.u yp x, Ass.blk y 71 [i64 p.tt, i64 (p.s : Int), i64 p.g, i64 p.lm, i64 p.r, i64 (p.K : Int), .slice (some ⟨a.pb, 0, none⟩) p.P.length a.pc, .slice (some ⟨a.lb, 0, none⟩) p.LL.length a.lc, i64 (p.nd : Int), i64 p.n, i64 (p.th : Int), .slice (some ⟨a.hb, 0, none⟩) p.path.length a.hc, i64 (((1 : Nat) : Int)), i64 ((t.at_ : Nat)), ptr a.yc, ptr yp, av, i64 (t.live), i64 (t.err), i64 (t.on), .bool false, i64 (t.ond)], rowO 3 1 (.slice (some ⟨a.pb, 0, none⟩) p.P.length a.pc) p.P.length (ints p.P), rowO 3 1 (.slice (some ⟨a.lb, 0, none⟩) p.LL.length a.lc) p.LL.length (ints p.LL), rowO 3 1 (.slice (some ⟨a.hb, 0, none⟩) p.path.length a.hc) p.path.length (ints (nats p.path)), r11O a.C p.K p.th a.yc t.cl] w2 from by repeat (with_reducible first | exact HS.out | apply Sx.alloc | apply Sx.drewN | apply Sx.drew)) 2 (by simp)))
  have qy := hb.k22
  clear hb
  have g1 : decide (x.next = 7) = true := by simp [h7]
  rw [g1]
  clear g1
  go_wp2_with fail
  have hs := hid (show Sx R w0 [r8A p.s p.lm p.K (p.v t.at_) p.n p.u yp x, Ass.blk y 71 [i64 p.tt, i64 (p.s : Int), i64 p.g, i64 p.lm, i64 p.r, i64 (p.K : Int), .slice (some ⟨a.pb, 0, none⟩) p.P.length a.pc, .slice (some ⟨a.lb, 0, none⟩) p.LL.length a.lc, i64 (p.nd : Int), i64 p.n, i64 (p.th : Int), .slice (some ⟨a.hb, 0, none⟩) p.path.length a.hc, i64 (((1 : Nat) : Int)), i64 ((t.at_ : Nat)), ptr a.yc, ptr yp, av, i64 (t.live), i64 (t.err), i64 (t.on), .bool false, i64 (t.ond)], rowO 3 1 (.slice (some ⟨a.pb, 0, none⟩) p.P.length a.pc) p.P.length (ints p.P), rowO 3 1 (.slice (some ⟨a.lb, 0, none⟩) p.LL.length a.lc) p.LL.length (ints p.LL), rowO 3 1 (.slice (some ⟨a.hb, 0, none⟩) p.path.length a.hc) p.path.length (ints (nats p.path)), r11O a.C p.K p.th a.yc t.cl, refO B m x.W x.L] w2 from (Sx.pick (Sx.pick (Sx.pick (Sx.pick (Sx.pick (Sx.pick (show Sx R w0 [refO B m x.W x.L, r8A p.s p.lm p.K (p.v t.at_) p.n p.u yp x, Ass.blk y 71 [i64 p.tt, i64 (p.s : Int), i64 p.g, i64 p.lm, i64 p.r, i64 (p.K : Int), .slice (some ⟨a.pb, 0, none⟩) p.P.length a.pc, .slice (some ⟨a.lb, 0, none⟩) p.LL.length a.lc, i64 (p.nd : Int), i64 p.n, i64 (p.th : Int), .slice (some ⟨a.hb, 0, none⟩) p.path.length a.hc, i64 (((1 : Nat) : Int)), i64 ((t.at_ : Nat)), ptr a.yc, ptr yp, av, i64 (t.live), i64 (t.err), i64 (t.on), .bool false, i64 (t.ond)], rowO 3 1 (.slice (some ⟨a.pb, 0, none⟩) p.P.length a.pc) p.P.length (ints p.P), rowO 3 1 (.slice (some ⟨a.lb, 0, none⟩) p.LL.length a.lc) p.LL.length (ints p.LL), rowO 3 1 (.slice (some ⟨a.hb, 0, none⟩) p.path.length a.hc) p.path.length (ints (nats p.path)), r11O a.C p.K p.th a.yc t.cl] w2 from by repeat (with_reducible first | exact HS.out | apply Sx.alloc | apply Sx.drewN | apply Sx.drew)) 6 (by simp)) 6 (by simp)) 6 (by simp)) 6 (by simp)) 6 (by simp)) 6 (by simp)))
  clear HS
  have HS := hs
  clear hs
  refine Calls.mono (Sx.call (Sx.group [r8A p.s p.lm p.K (p.v t.at_) p.n p.u yp x, Ass.blk y 71 [i64 p.tt, i64 (p.s : Int), i64 p.g, i64 p.lm, i64 p.r, i64 (p.K : Int), .slice (some ⟨a.pb, 0, none⟩) p.P.length a.pc, .slice (some ⟨a.lb, 0, none⟩) p.LL.length a.lc, i64 (p.nd : Int), i64 p.n, i64 (p.th : Int), .slice (some ⟨a.hb, 0, none⟩) p.path.length a.hc, i64 (((1 : Nat) : Int)), i64 ((t.at_ : Nat)), ptr a.yc, ptr yp, av, i64 (t.live), i64 (t.err), i64 (t.on), .bool false, i64 (t.ond)], rowO 3 1 (.slice (some ⟨a.pb, 0, none⟩) p.P.length a.pc) p.P.length (ints p.P), rowO 3 1 (.slice (some ⟨a.lb, 0, none⟩) p.LL.length a.lc) p.LL.length (ints p.LL), rowO 3 1 (.slice (some ⟨a.hb, 0, none⟩) p.path.length a.hc) p.path.length (ints (nats p.path)), r11O a.C p.K p.th a.yc t.cl] (l := [refO B m x.W x.L]) HS.out) (fun Rq hr _ => r12_pooled_bad (t := { t with ph := 1, po := x }) (av := av) hb hr)) ?_
  rintro e w3 ⟨rfl, hs⟩
  clear HS
  have HS := hid (show Sx R w0 [r8A p.s p.lm p.K (p.v t.at_) p.n p.u yp x, Ass.blk y 71 [i64 p.tt, i64 (p.s : Int), i64 p.g, i64 p.lm, i64 p.r, i64 (p.K : Int), .slice (some ⟨a.pb, 0, none⟩) p.P.length a.pc, .slice (some ⟨a.lb, 0, none⟩) p.LL.length a.lc, i64 (p.nd : Int), i64 p.n, i64 (p.th : Int), .slice (some ⟨a.hb, 0, none⟩) p.path.length a.hc, i64 (((2 : Nat) : Int)), i64 ((t.at_ : Nat)), ptr a.yc, ptr yp, av, i64 (t.live), i64 (4), i64 (0), .bool false, i64 ((p.v t.at_ : Int))], rowO 3 1 (.slice (some ⟨a.pb, 0, none⟩) p.P.length a.pc) p.P.length (ints p.P), rowO 3 1 (.slice (some ⟨a.lb, 0, none⟩) p.LL.length a.lc) p.LL.length (ints p.LL), rowO 3 1 (.slice (some ⟨a.hb, 0, none⟩) p.path.length a.hc) p.path.length (ints (nats p.path)), r11O a.C p.K p.th a.yc t.cl, refO B m x.W x.L] w3 from Sx.ungroup _ hs)
  clear hs qy
  obtain ⟨_, ⟨hb, _⟩, _⟩ := Sx.get (show Sx R w0 [Ass.blk y 71 [i64 p.tt, i64 (p.s : Int), i64 p.g, i64 p.lm, i64 p.r, i64 (p.K : Int), .slice (some ⟨a.pb, 0, none⟩) p.P.length a.pc, .slice (some ⟨a.lb, 0, none⟩) p.LL.length a.lc, i64 (p.nd : Int), i64 p.n, i64 (p.th : Int), .slice (some ⟨a.hb, 0, none⟩) p.path.length a.hc, i64 (((2 : Nat) : Int)), i64 ((t.at_ : Nat)), ptr a.yc, ptr yp, av, i64 (t.live), i64 (4), i64 (0), .bool false, i64 ((p.v t.at_ : Int))], r8A p.s p.lm p.K (p.v t.at_) p.n p.u yp x, rowO 3 1 (.slice (some ⟨a.pb, 0, none⟩) p.P.length a.pc) p.P.length (ints p.P), rowO 3 1 (.slice (some ⟨a.lb, 0, none⟩) p.LL.length a.lc) p.LL.length (ints p.LL), rowO 3 1 (.slice (some ⟨a.hb, 0, none⟩) p.path.length a.hc) p.path.length (ints (nats p.path)), r11O a.C p.K p.th a.yc t.cl, refO B m x.W x.L] w3 from (Sx.pick (show Sx R w0 [r8A p.s p.lm p.K (p.v t.at_) p.n p.u yp x, Ass.blk y 71 [i64 p.tt, i64 (p.s : Int), i64 p.g, i64 p.lm, i64 p.r, i64 (p.K : Int), .slice (some ⟨a.pb, 0, none⟩) p.P.length a.pc, .slice (some ⟨a.lb, 0, none⟩) p.LL.length a.lc, i64 (p.nd : Int), i64 p.n, i64 (p.th : Int), .slice (some ⟨a.hb, 0, none⟩) p.path.length a.hc, i64 (((2 : Nat) : Int)), i64 ((t.at_ : Nat)), ptr a.yc, ptr yp, av, i64 (t.live), i64 (4), i64 (0), .bool false, i64 ((p.v t.at_ : Int))], rowO 3 1 (.slice (some ⟨a.pb, 0, none⟩) p.P.length a.pc) p.P.length (ints p.P), rowO 3 1 (.slice (some ⟨a.lb, 0, none⟩) p.LL.length a.lc) p.LL.length (ints p.LL), rowO 3 1 (.slice (some ⟨a.hb, 0, none⟩) p.path.length a.hc) p.path.length (ints (nats p.path)), r11O a.C p.K p.th a.yc t.cl, refO B m x.W x.L] w3 from by repeat (with_reducible first | exact HS.out | apply Sx.alloc | apply Sx.drewN | apply Sx.drew)) 1 (by simp)))
  have qy := hb.k22
  clear hb
  go_wp2_with fail
  go_ret
  exact ⟨rfl, Sx.drop (show Sx R w0 [r8A p.s p.lm p.K (p.v t.at_) p.n p.u yp x, refO B m x.W x.L, Ass.blk y 71 [i64 p.tt, i64 (p.s : Int), i64 p.g, i64 p.lm, i64 p.r, i64 (p.K : Int), .slice (some ⟨a.pb, 0, none⟩) p.P.length a.pc, .slice (some ⟨a.lb, 0, none⟩) p.LL.length a.lc, i64 (p.nd : Int), i64 p.n, i64 (p.th : Int), .slice (some ⟨a.hb, 0, none⟩) p.path.length a.hc, i64 (((2 : Nat) : Int)), i64 ((t.at_ : Nat)), ptr a.yc, ptr yp, av, i64 (t.live), i64 (4), i64 (0), .bool false, i64 ((p.v t.at_ : Int))], rowO 3 1 (.slice (some ⟨a.pb, 0, none⟩) p.P.length a.pc) p.P.length (ints p.P), rowO 3 1 (.slice (some ⟨a.lb, 0, none⟩) p.LL.length a.lc) p.LL.length (ints p.LL), rowO 3 1 (.slice (some ⟨a.hb, 0, none⟩) p.path.length a.hc) p.path.length (ints (nats p.path)), r11O a.C p.K p.th a.yc t.cl] _ from (Sx.pick (Sx.pick (Sx.pick (Sx.pick (Sx.pick (Sx.pick (Sx.pick (show Sx R w0 [r8A p.s p.lm p.K (p.v t.at_) p.n p.u yp x, Ass.blk y 71 [i64 p.tt, i64 (p.s : Int), i64 p.g, i64 p.lm, i64 p.r, i64 (p.K : Int), .slice (some ⟨a.pb, 0, none⟩) p.P.length a.pc, .slice (some ⟨a.lb, 0, none⟩) p.LL.length a.lc, i64 (p.nd : Int), i64 p.n, i64 (p.th : Int), .slice (some ⟨a.hb, 0, none⟩) p.path.length a.hc, i64 (((2 : Nat) : Int)), i64 ((t.at_ : Nat)), ptr a.yc, ptr yp, av, i64 (t.live), i64 (4), i64 (0), .bool false, i64 ((p.v t.at_ : Int))], rowO 3 1 (.slice (some ⟨a.pb, 0, none⟩) p.P.length a.pc) p.P.length (ints p.P), rowO 3 1 (.slice (some ⟨a.lb, 0, none⟩) p.LL.length a.lc) p.LL.length (ints p.LL), rowO 3 1 (.slice (some ⟨a.hb, 0, none⟩) p.path.length a.hc) p.path.length (ints (nats p.path)), r11O a.C p.K p.th a.yc t.cl, refO B m x.W x.L] _ from by repeat (with_reducible first | exact HS.out | apply Sx.alloc | apply Sx.drewN | apply Sx.drew)) 5 (by simp)) 5 (by simp)) 5 (by simp)) 5 (by simp)) 5 (by simp)) 6 (by simp)) 6 (by simp)))⟩
set_option maxHeartbeats 4000000 in
theorem r12_step1last {yp : Nat} {X : Int} (hp : P12OK p) (ha : t.at_ < p.path.length) (hn : t.cl.n < p.K) (hpi : PInv (p.av (p.v t.at_)) (p.le (p.v t.at_) p.u) p.n p.lm X t.pl) (hX : X ≤ 4398046511104) (hW : t.W.length ≤ 1000000) (hL : t.L.length ≤ 1000000000) (h7 : (pNext (p.av (p.v t.at_)) (p.le (p.v t.at_) p.u) p.n p.lm t.pl).next = 7) (hb : (pNext (p.av (p.v t.at_)) (p.le (p.v t.at_) p.u) p.n p.lm t.pl).bad = false) (hl : t.at_ + 1 = p.path.length) (h : (stars (refO B m t.W t.L :: [Ass.blk y 71 [i64 p.tt, i64 (p.s : Int), i64 p.g, i64 p.lm, i64 p.r, i64 (p.K : Int), .slice (some ⟨a.pb, 0, none⟩) p.P.length a.pc, .slice (some ⟨a.lb, 0, none⟩) p.LL.length a.lc, i64 (p.nd : Int), i64 p.n, i64 (p.th : Int), .slice (some ⟨a.hb, 0, none⟩) p.path.length a.hc, i64 (((1 : Nat) : Int)), i64 ((t.at_ : Nat)), ptr a.yc, ptr yp, av, i64 (t.live), i64 (t.err), i64 (t.on), .bool false, i64 (t.ond)], rowO 3 1 (.slice (some ⟨a.pb, 0, none⟩) p.P.length a.pc) p.P.length (ints p.P), rowO 3 1 (.slice (some ⟨a.lb, 0, none⟩) p.LL.length a.lc) p.LL.length (ints p.LL), rowO 3 1 (.slice (some ⟨a.hb, 0, none⟩) p.path.length a.hc) p.path.length (ints (nats p.path)), r11O a.C p.K p.th a.yc t.cl, r8A p.s p.lm p.K (p.v t.at_) p.n p.u yp t.po])).At R w) :
 Calls Try.prog 37 #[ptr y, ptr m] w fun e w' => e = .returned (.bool false) ∧ Tr (stars ((refO B m (pNext (p.av (p.v t.at_)) (p.le (p.v t.at_) p.u) p.n p.lm t.pl).W (pNext (p.av (p.v t.at_)) (p.le (p.v t.at_) p.u) p.n p.lm t.pl).L) :: [Ass.blk y 71 [i64 p.tt, i64 (p.s : Int), i64 p.g, i64 p.lm, i64 p.r, i64 (p.K : Int), .slice (some ⟨a.pb, 0, none⟩) p.P.length a.pc, .slice (some ⟨a.lb, 0, none⟩) p.LL.length a.lc, i64 (p.nd : Int), i64 p.n, i64 (p.th : Int), .slice (some ⟨a.hb, 0, none⟩) p.path.length a.hc, i64 (((3 : Nat) : Int)), i64 (((t.at_ + 1 : Nat) : Int)), ptr a.yc, ptr yp, av, i64 (t.live), i64 (t.err), i64 (t.on), .bool false, i64 (t.ond)], rowO 3 1 (.slice (some ⟨a.pb, 0, none⟩) p.P.length a.pc) p.P.length (ints p.P), rowO 3 1 (.slice (some ⟨a.lb, 0, none⟩) p.LL.length a.lc) p.LL.length (ints p.LL), rowO 3 1 (.slice (some ⟨a.hb, 0, none⟩) p.path.length a.hc) p.path.length (ints (nats p.path)), r11O a.C p.K p.th a.yc t.cl])) R w w' := by
 obtain ⟨w0, hw0⟩ : ∃ v, v = w := ⟨_, rfl⟩
 rw [← hw0] at h ⊢
 have HS := hid (show Sx R w0 [refO B m t.W t.L, Ass.blk y 71 [i64 p.tt, i64 (p.s : Int), i64 p.g, i64 p.lm, i64 p.r, i64 (p.K : Int), .slice (some ⟨a.pb, 0, none⟩) p.P.length a.pc, .slice (some ⟨a.lb, 0, none⟩) p.LL.length a.lc, i64 (p.nd : Int), i64 p.n, i64 (p.th : Int), .slice (some ⟨a.hb, 0, none⟩) p.path.length a.hc, i64 (((1 : Nat) : Int)), i64 ((t.at_ : Nat)), ptr a.yc, ptr yp, av, i64 (t.live), i64 (t.err), i64 (t.on), .bool false, i64 (t.ond)], rowO 3 1 (.slice (some ⟨a.pb, 0, none⟩) p.P.length a.pc) p.P.length (ints p.P), rowO 3 1 (.slice (some ⟨a.lb, 0, none⟩) p.LL.length a.lc) p.LL.length (ints p.LL), rowO 3 1 (.slice (some ⟨a.hb, 0, none⟩) p.path.length a.hc) p.path.length (ints (nats p.path)), r11O a.C p.K p.th a.yc t.cl, r8A p.s p.lm p.K (p.v t.at_) p.n p.u yp t.po] w0 from Sx.start h)
 clear h hw0
 obtain ⟨x, hx⟩ : ∃ x, x = pNext (p.av (p.v t.at_)) (p.le (p.v t.at_) p.u) p.n p.lm t.pl := ⟨_, rfl⟩
 rw [← hx] at h7 hb ⊢
 have HXN := hid hx
 clear hx
 have hva := hp.v1 ha
 have hua := hp.u1
 have hpl1 := hp.p1
 have hsq := hp.s8
 have hs8 := hp.s8
 have hp1 := hp.p1
 have hk1 := hp.k1
 obtain ⟨ae, hae⟩ : ∃ ae : Int, ae = (if t.cl.fin = 2 then 3 else 0) := ⟨_, rfl⟩
 have HAE := hid hae
 clear hae
 have htk0 := fun w' => ref_Ticket p.tt p.s p.g p.lm p.r p.K (some ⟨a.pb, 0, none⟩) p.P.length a.pc (some ⟨a.lb, 0, none⟩) p.LL.length a.lc (t.cl.n : Int) w' (by omega) (by omega) (by omega) (by omega) (by omega)
 rw [show (p.P.length : Int) * (6 + 2 * (p.s : Int)) + 2 * (t.cl.n : Int) = ((t.tk p : Nat) : Int) from by unfold S12.tk P12.q; push_cast; rfl] at htk0
 have HTK := hid htk0
 clear htk0
 go_enter Try.func37, Try.ntmps37
 go_upto_region 1 with fail
 apply wp_region_text (WI := fun S wx => Keep0 w0 wx) (by kernel_rfl) (by kernel_rfl)
 case hob =>
  iterate 8
   apply Oblig.cons
   case h =>
    intro S w1 hwi hSi hd hcl
    apply StepOk.intro
    intro K hK
    obtain ⟨_, ⟨hb, _⟩, _⟩ := Sx.get (Sx.pick (Sx.keep HS.out hwi) 1 (by simp))
    have qy := hb.k22
    clear hb
    obtain ⟨_, ⟨hcl, _⟩, _⟩ := Sx.get (Sx.pick (Sx.keep HS.out hwi) 5 (by simp))
    go_simp
    apply hK
    · rfl
    · conv => (lhs; whnf)
    · exact hwi
   simp only [put_lit, put_none]
   try dsimp only [List.set_cons_succ, List.set_cons_zero]
  apply Oblig.cons
  case h =>
   intro S w1 hwi hSi hd hcl
   apply StepOk.intro
   intro K hK
   obtain ⟨_, ⟨hb, _⟩, _⟩ := Sx.get (Sx.pick (Sx.keep HS.out hwi) 1 (by simp))
   have qy := hb.k22
   clear hb
   obtain ⟨_, ⟨hcl, _⟩, _⟩ := Sx.get (Sx.pick (Sx.keep HS.out hwi) 5 (by simp))
   go_simp
   refine (show Calls Try.prog 52 _ w1 (Ret (.agg #[i64 ae, i64 (t.cl.n : Int), .bool false, i64 0]) w1) from by have h := r11_Ans t.cl hcl; unfold clAns at h; rw [← HAE.out] at h; exact h).mono ?_
   rintro e w2 ⟨rfl, hk⟩
   apply hK
   · rfl
   · conv => (lhs; whnf)
   · exact Keep0.step hwi hk
  simp only [put_lit, put_none]
  try dsimp only [List.set_cons_succ, List.set_cons_zero]
  apply Oblig.cons
  case h =>
   intro S w1 hwi hSi hd hcl
   apply StepOk.intro
   intro K hK
   obtain ⟨_, ⟨hb, _⟩, _⟩ := Sx.get (Sx.pick (Sx.keep HS.out hwi) 1 (by simp))
   have qy := hb.k22
   clear hb
   obtain ⟨_, ⟨hcl, _⟩, _⟩ := Sx.get (Sx.pick (Sx.keep HS.out hwi) 5 (by simp))
   go_simp
   apply hK
   · rfl
   · conv => (lhs; whnf)
   · exact hwi
  simp only [put_lit, put_none]
  try dsimp only [List.set_cons_succ, List.set_cons_zero]
  apply Oblig.cons
  case h =>
   intro S w1 hwi hSi hd hcl
   apply StepOk.intro
   intro K hK
   go_simp
   refine (HTK.out _).mono ?_
   rintro e w2 ⟨rfl, hk⟩
   apply hK
   · rfl
   · conv => (lhs; whnf)
   · exact Keep0.step hwi hk
  simp only [put_lit, put_none]
  try dsimp only [List.set_cons_succ, List.set_cons_zero]
  apply Oblig.cons
  case h =>
   intro S w1 hwi hSi hd hcl
   apply StepOk.intro
   intro K hK
   obtain ⟨_, ⟨hb, _⟩, _⟩ := Sx.get (Sx.pick (Sx.keep HS.out hwi) 1 (by simp))
   have qy := hb.k22
   clear hb
   obtain ⟨_, ⟨hcl, _⟩, _⟩ := Sx.get (Sx.pick (Sx.keep HS.out hwi) 5 (by simp))
   go_simp
   apply hK
   · rfl
   · conv => (lhs; whnf)
   · exact hwi
  simp only [put_lit, put_none]
  try dsimp only [List.set_cons_succ, List.set_cons_zero]
  exact Oblig.nil
 case h0 =>
  exact (Keep.refl _ _).drew
 case hend =>
  intro S wx hwi hall
  have hkx := hwi
  obtain ⟨w1, hwn⟩ : ∃ v, v = wx := ⟨_, rfl⟩
  rw [← hwn] at hkx ⊢
  have hs := hid (show Sx R w0 [refO B m t.W t.L, Ass.blk y 71 [i64 p.tt, i64 (p.s : Int), i64 p.g, i64 p.lm, i64 p.r, i64 (p.K : Int), .slice (some ⟨a.pb, 0, none⟩) p.P.length a.pc, .slice (some ⟨a.lb, 0, none⟩) p.LL.length a.lc, i64 (p.nd : Int), i64 p.n, i64 (p.th : Int), .slice (some ⟨a.hb, 0, none⟩) p.path.length a.hc, i64 (((1 : Nat) : Int)), i64 ((t.at_ : Nat)), ptr a.yc, ptr yp, av, i64 (t.live), i64 (t.err), i64 (t.on), .bool false, i64 (t.ond)], rowO 3 1 (.slice (some ⟨a.pb, 0, none⟩) p.P.length a.pc) p.P.length (ints p.P), rowO 3 1 (.slice (some ⟨a.lb, 0, none⟩) p.LL.length a.lc) p.LL.length (ints p.LL), rowO 3 1 (.slice (some ⟨a.hb, 0, none⟩) p.path.length a.hc) p.path.length (ints (nats p.path)), r11O a.C p.K p.th a.yc t.cl, r8A p.s p.lm p.K (p.v t.at_) p.n p.u yp t.po] w1 from Sx.keep HS.out hkx)
  clear hwi hall hkx hwn HS
  have HS := hs
  clear hs
  obtain ⟨_, ⟨hb, _⟩, _⟩ := Sx.get (show Sx R w0 [Ass.blk y 71 [i64 p.tt, i64 (p.s : Int), i64 p.g, i64 p.lm, i64 p.r, i64 (p.K : Int), .slice (some ⟨a.pb, 0, none⟩) p.P.length a.pc, .slice (some ⟨a.lb, 0, none⟩) p.LL.length a.lc, i64 (p.nd : Int), i64 p.n, i64 (p.th : Int), .slice (some ⟨a.hb, 0, none⟩) p.path.length a.hc, i64 (((1 : Nat) : Int)), i64 ((t.at_ : Nat)), ptr a.yc, ptr yp, av, i64 (t.live), i64 (t.err), i64 (t.on), .bool false, i64 (t.ond)], refO B m t.W t.L, rowO 3 1 (.slice (some ⟨a.pb, 0, none⟩) p.P.length a.pc) p.P.length (ints p.P), rowO 3 1 (.slice (some ⟨a.lb, 0, none⟩) p.LL.length a.lc) p.LL.length (ints p.LL), rowO 3 1 (.slice (some ⟨a.hb, 0, none⟩) p.path.length a.hc) p.path.length (ints (nats p.path)), r11O a.C p.K p.th a.yc t.cl, r8A p.s p.lm p.K (p.v t.at_) p.n p.u yp t.po] w1 from (Sx.pick (show Sx R w0 [refO B m t.W t.L, Ass.blk y 71 [i64 p.tt, i64 (p.s : Int), i64 p.g, i64 p.lm, i64 p.r, i64 (p.K : Int), .slice (some ⟨a.pb, 0, none⟩) p.P.length a.pc, .slice (some ⟨a.lb, 0, none⟩) p.LL.length a.lc, i64 (p.nd : Int), i64 p.n, i64 (p.th : Int), .slice (some ⟨a.hb, 0, none⟩) p.path.length a.hc, i64 (((1 : Nat) : Int)), i64 ((t.at_ : Nat)), ptr a.yc, ptr yp, av, i64 (t.live), i64 (t.err), i64 (t.on), .bool false, i64 (t.ond)], rowO 3 1 (.slice (some ⟨a.pb, 0, none⟩) p.P.length a.pc) p.P.length (ints p.P), rowO 3 1 (.slice (some ⟨a.lb, 0, none⟩) p.LL.length a.lc) p.LL.length (ints p.LL), rowO 3 1 (.slice (some ⟨a.hb, 0, none⟩) p.path.length a.hc) p.path.length (ints (nats p.path)), r11O a.C p.K p.th a.yc t.cl, r8A p.s p.lm p.K (p.v t.at_) p.n p.u yp t.po] w1 from by repeat (with_reducible first | exact HS.out | apply Sx.alloc | apply Sx.drewN | apply Sx.drew)) 1 (by simp)))
  have qy := hb.k22
  clear hb
  go_wp2_with fail
  refine Calls.mono (Sx.call (q := Ass.star (refO B m x.W x.L) (r8A p.s p.lm p.K (p.v t.at_) p.n p.u yp x)) (Sx.pair (show Sx R w0 [refO B m t.W t.L, r8A p.s p.lm p.K (p.v t.at_) p.n p.u yp t.po, Ass.blk y 71 [i64 p.tt, i64 (p.s : Int), i64 p.g, i64 p.lm, i64 p.r, i64 (p.K : Int), .slice (some ⟨a.pb, 0, none⟩) p.P.length a.pc, .slice (some ⟨a.lb, 0, none⟩) p.LL.length a.lc, i64 (p.nd : Int), i64 p.n, i64 (p.th : Int), .slice (some ⟨a.hb, 0, none⟩) p.path.length a.hc, i64 (((1 : Nat) : Int)), i64 ((t.at_ : Nat)), ptr a.yc, ptr yp, av, i64 (t.live), i64 (t.err), i64 (t.on), .bool false, i64 (t.ond)], rowO 3 1 (.slice (some ⟨a.pb, 0, none⟩) p.P.length a.pc) p.P.length (ints p.P), rowO 3 1 (.slice (some ⟨a.lb, 0, none⟩) p.LL.length a.lc) p.LL.length (ints p.LL), rowO 3 1 (.slice (some ⟨a.hb, 0, none⟩) p.path.length a.hc) p.path.length (ints (nats p.path)), r11O a.C p.K p.th a.yc t.cl] _ from (Sx.pick (Sx.pick (show Sx R w0 [refO B m t.W t.L, Ass.blk y 71 [i64 p.tt, i64 (p.s : Int), i64 p.g, i64 p.lm, i64 p.r, i64 (p.K : Int), .slice (some ⟨a.pb, 0, none⟩) p.P.length a.pc, .slice (some ⟨a.lb, 0, none⟩) p.LL.length a.lc, i64 (p.nd : Int), i64 p.n, i64 (p.th : Int), .slice (some ⟨a.hb, 0, none⟩) p.path.length a.hc, i64 (((1 : Nat) : Int)), i64 ((t.at_ : Nat)), ptr a.yc, ptr yp, av, i64 (t.live), i64 (t.err), i64 (t.on), .bool false, i64 (t.ond)], rowO 3 1 (.slice (some ⟨a.pb, 0, none⟩) p.P.length a.pc) p.P.length (ints p.P), rowO 3 1 (.slice (some ⟨a.lb, 0, none⟩) p.LL.length a.lc) p.LL.length (ints p.LL), rowO 3 1 (.slice (some ⟨a.hb, 0, none⟩) p.path.length a.hc) p.path.length (ints (nats p.path)), r11O a.C p.K p.th a.yc t.cl, r8A p.s p.lm p.K (p.v t.at_) p.n p.u yp t.po] _ from by repeat (with_reducible first | exact HS.out | apply Sx.alloc | apply Sx.drewN | apply Sx.drew)) 6 (by simp)) 1 (by simp)))) (fun Rq hr hz => (show Calls Try.prog 55 _ _ (fun e w' => e = .returned (.bool (decide (x.next = 7))) ∧ Tr _ Rq _ w') from by rw [HXN.out]; exact r8A_Step (x := t.pl) hr hpi hX hL hW (by omega) (by omega) (by omega) (by unfold P12.av; push_cast; rfl) (by unfold P12.le; push_cast; rfl)))) ?_
  rintro e w2 ⟨rfl, hs⟩
  clear HS
  have HS := hid (show Sx R w0 [refO B m x.W x.L, r8A p.s p.lm p.K (p.v t.at_) p.n p.u yp x, Ass.blk y 71 [i64 p.tt, i64 (p.s : Int), i64 p.g, i64 p.lm, i64 p.r, i64 (p.K : Int), .slice (some ⟨a.pb, 0, none⟩) p.P.length a.pc, .slice (some ⟨a.lb, 0, none⟩) p.LL.length a.lc, i64 (p.nd : Int), i64 p.n, i64 (p.th : Int), .slice (some ⟨a.hb, 0, none⟩) p.path.length a.hc, i64 (((1 : Nat) : Int)), i64 ((t.at_ : Nat)), ptr a.yc, ptr yp, av, i64 (t.live), i64 (t.err), i64 (t.on), .bool false, i64 (t.ond)], rowO 3 1 (.slice (some ⟨a.pb, 0, none⟩) p.P.length a.pc) p.P.length (ints p.P), rowO 3 1 (.slice (some ⟨a.lb, 0, none⟩) p.LL.length a.lc) p.LL.length (ints p.LL), rowO 3 1 (.slice (some ⟨a.hb, 0, none⟩) p.path.length a.hc) p.path.length (ints (nats p.path)), r11O a.C p.K p.th a.yc t.cl] w2 from Sx.part hs)
  clear hs
  clear qy
  obtain ⟨_, ⟨hb, _⟩, _⟩ := Sx.get (show Sx R w0 [Ass.blk y 71 [i64 p.tt, i64 (p.s : Int), i64 p.g, i64 p.lm, i64 p.r, i64 (p.K : Int), .slice (some ⟨a.pb, 0, none⟩) p.P.length a.pc, .slice (some ⟨a.lb, 0, none⟩) p.LL.length a.lc, i64 (p.nd : Int), i64 p.n, i64 (p.th : Int), .slice (some ⟨a.hb, 0, none⟩) p.path.length a.hc, i64 (((1 : Nat) : Int)), i64 ((t.at_ : Nat)), ptr a.yc, ptr yp, av, i64 (t.live), i64 (t.err), i64 (t.on), .bool false, i64 (t.ond)], refO B m x.W x.L, r8A p.s p.lm p.K (p.v t.at_) p.n p.u yp x, rowO 3 1 (.slice (some ⟨a.pb, 0, none⟩) p.P.length a.pc) p.P.length (ints p.P), rowO 3 1 (.slice (some ⟨a.lb, 0, none⟩) p.LL.length a.lc) p.LL.length (ints p.LL), rowO 3 1 (.slice (some ⟨a.hb, 0, none⟩) p.path.length a.hc) p.path.length (ints (nats p.path)), r11O a.C p.K p.th a.yc t.cl] w2 from (Sx.pick (show Sx R w0 [refO B m x.W x.L, r8A p.s p.lm p.K (p.v t.at_) p.n p.u yp x, Ass.blk y 71 [i64 p.tt, i64 (p.s : Int), i64 p.g, i64 p.lm, i64 p.r, i64 (p.K : Int), .slice (some ⟨a.pb, 0, none⟩) p.P.length a.pc, .slice (some ⟨a.lb, 0, none⟩) p.LL.length a.lc, i64 (p.nd : Int), i64 p.n, i64 (p.th : Int), .slice (some ⟨a.hb, 0, none⟩) p.path.length a.hc, i64 (((1 : Nat) : Int)), i64 ((t.at_ : Nat)), ptr a.yc, ptr yp, av, i64 (t.live), i64 (t.err), i64 (t.on), .bool false, i64 (t.ond)], rowO 3 1 (.slice (some ⟨a.pb, 0, none⟩) p.P.length a.pc) p.P.length (ints p.P), rowO 3 1 (.slice (some ⟨a.lb, 0, none⟩) p.LL.length a.lc) p.LL.length (ints p.LL), rowO 3 1 (.slice (some ⟨a.hb, 0, none⟩) p.path.length a.hc) p.path.length (ints (nats p.path)), r11O a.C p.K p.th a.yc t.cl] w2 from by repeat (with_reducible first | exact HS.out | apply Sx.alloc | apply Sx.drewN | apply Sx.drew)) 2 (by simp)))
  have qy := hb.k22
  clear hb
  have g1 : decide (x.next = 7) = true := by simp [h7]
  rw [g1]
  clear g1
  go_wp2_with fail
  have hs := hid (show Sx R w0 [r8A p.s p.lm p.K (p.v t.at_) p.n p.u yp x, Ass.blk y 71 [i64 p.tt, i64 (p.s : Int), i64 p.g, i64 p.lm, i64 p.r, i64 (p.K : Int), .slice (some ⟨a.pb, 0, none⟩) p.P.length a.pc, .slice (some ⟨a.lb, 0, none⟩) p.LL.length a.lc, i64 (p.nd : Int), i64 p.n, i64 (p.th : Int), .slice (some ⟨a.hb, 0, none⟩) p.path.length a.hc, i64 (((1 : Nat) : Int)), i64 ((t.at_ : Nat)), ptr a.yc, ptr yp, av, i64 (t.live), i64 (t.err), i64 (t.on), .bool false, i64 (t.ond)], rowO 3 1 (.slice (some ⟨a.pb, 0, none⟩) p.P.length a.pc) p.P.length (ints p.P), rowO 3 1 (.slice (some ⟨a.lb, 0, none⟩) p.LL.length a.lc) p.LL.length (ints p.LL), rowO 3 1 (.slice (some ⟨a.hb, 0, none⟩) p.path.length a.hc) p.path.length (ints (nats p.path)), r11O a.C p.K p.th a.yc t.cl, refO B m x.W x.L] w2 from (Sx.pick (Sx.pick (Sx.pick (Sx.pick (Sx.pick (Sx.pick (show Sx R w0 [refO B m x.W x.L, r8A p.s p.lm p.K (p.v t.at_) p.n p.u yp x, Ass.blk y 71 [i64 p.tt, i64 (p.s : Int), i64 p.g, i64 p.lm, i64 p.r, i64 (p.K : Int), .slice (some ⟨a.pb, 0, none⟩) p.P.length a.pc, .slice (some ⟨a.lb, 0, none⟩) p.LL.length a.lc, i64 (p.nd : Int), i64 p.n, i64 (p.th : Int), .slice (some ⟨a.hb, 0, none⟩) p.path.length a.hc, i64 (((1 : Nat) : Int)), i64 ((t.at_ : Nat)), ptr a.yc, ptr yp, av, i64 (t.live), i64 (t.err), i64 (t.on), .bool false, i64 (t.ond)], rowO 3 1 (.slice (some ⟨a.pb, 0, none⟩) p.P.length a.pc) p.P.length (ints p.P), rowO 3 1 (.slice (some ⟨a.lb, 0, none⟩) p.LL.length a.lc) p.LL.length (ints p.LL), rowO 3 1 (.slice (some ⟨a.hb, 0, none⟩) p.path.length a.hc) p.path.length (ints (nats p.path)), r11O a.C p.K p.th a.yc t.cl] w2 from by repeat (with_reducible first | exact HS.out | apply Sx.alloc | apply Sx.drewN | apply Sx.drew)) 6 (by simp)) 6 (by simp)) 6 (by simp)) 6 (by simp)) 6 (by simp)) 6 (by simp)))
  clear HS
  have HS := hs
  clear hs
  refine Calls.mono (Sx.call (Sx.group [r8A p.s p.lm p.K (p.v t.at_) p.n p.u yp x, Ass.blk y 71 [i64 p.tt, i64 (p.s : Int), i64 p.g, i64 p.lm, i64 p.r, i64 (p.K : Int), .slice (some ⟨a.pb, 0, none⟩) p.P.length a.pc, .slice (some ⟨a.lb, 0, none⟩) p.LL.length a.lc, i64 (p.nd : Int), i64 p.n, i64 (p.th : Int), .slice (some ⟨a.hb, 0, none⟩) p.path.length a.hc, i64 (((1 : Nat) : Int)), i64 ((t.at_ : Nat)), ptr a.yc, ptr yp, av, i64 (t.live), i64 (t.err), i64 (t.on), .bool false, i64 (t.ond)], rowO 3 1 (.slice (some ⟨a.pb, 0, none⟩) p.P.length a.pc) p.P.length (ints p.P), rowO 3 1 (.slice (some ⟨a.lb, 0, none⟩) p.LL.length a.lc) p.LL.length (ints p.LL), rowO 3 1 (.slice (some ⟨a.hb, 0, none⟩) p.path.length a.hc) p.path.length (ints (nats p.path)), r11O a.C p.K p.th a.yc t.cl] (l := [refO B m x.W x.L]) HS.out) (fun Rq hr _ => r12_pooled_last (t := { t with ph := 1, po := x }) (av := av) hp hb hl hr)) ?_
  rintro e w3 ⟨rfl, hs⟩
  clear HS
  have HS := hid (show Sx R w0 [Ass.blk y 71 [i64 p.tt, i64 (p.s : Int), i64 p.g, i64 p.lm, i64 p.r, i64 (p.K : Int), .slice (some ⟨a.pb, 0, none⟩) p.P.length a.pc, .slice (some ⟨a.lb, 0, none⟩) p.LL.length a.lc, i64 (p.nd : Int), i64 p.n, i64 (p.th : Int), .slice (some ⟨a.hb, 0, none⟩) p.path.length a.hc, i64 (((3 : Nat) : Int)), i64 (((t.at_ + 1 : Nat) : Int)), ptr a.yc, ptr yp, av, i64 (t.live), i64 (t.err), i64 (t.on), .bool false, i64 (t.ond)], rowO 3 1 (.slice (some ⟨a.pb, 0, none⟩) p.P.length a.pc) p.P.length (ints p.P), rowO 3 1 (.slice (some ⟨a.lb, 0, none⟩) p.LL.length a.lc) p.LL.length (ints p.LL), rowO 3 1 (.slice (some ⟨a.hb, 0, none⟩) p.path.length a.hc) p.path.length (ints (nats p.path)), r11O a.C p.K p.th a.yc t.cl, refO B m x.W x.L] w3 from Sx.ungroup _ hs)
  clear hs qy
  obtain ⟨_, ⟨hb, _⟩, _⟩ := Sx.get (show Sx R w0 [Ass.blk y 71 [i64 p.tt, i64 (p.s : Int), i64 p.g, i64 p.lm, i64 p.r, i64 (p.K : Int), .slice (some ⟨a.pb, 0, none⟩) p.P.length a.pc, .slice (some ⟨a.lb, 0, none⟩) p.LL.length a.lc, i64 (p.nd : Int), i64 p.n, i64 (p.th : Int), .slice (some ⟨a.hb, 0, none⟩) p.path.length a.hc, i64 (((3 : Nat) : Int)), i64 (((t.at_ + 1 : Nat) : Int)), ptr a.yc, ptr yp, av, i64 (t.live), i64 (t.err), i64 (t.on), .bool false, i64 (t.ond)], rowO 3 1 (.slice (some ⟨a.pb, 0, none⟩) p.P.length a.pc) p.P.length (ints p.P), rowO 3 1 (.slice (some ⟨a.lb, 0, none⟩) p.LL.length a.lc) p.LL.length (ints p.LL), rowO 3 1 (.slice (some ⟨a.hb, 0, none⟩) p.path.length a.hc) p.path.length (ints (nats p.path)), r11O a.C p.K p.th a.yc t.cl, refO B m x.W x.L] w3 from (show Sx R w0 [Ass.blk y 71 [i64 p.tt, i64 (p.s : Int), i64 p.g, i64 p.lm, i64 p.r, i64 (p.K : Int), .slice (some ⟨a.pb, 0, none⟩) p.P.length a.pc, .slice (some ⟨a.lb, 0, none⟩) p.LL.length a.lc, i64 (p.nd : Int), i64 p.n, i64 (p.th : Int), .slice (some ⟨a.hb, 0, none⟩) p.path.length a.hc, i64 (((3 : Nat) : Int)), i64 (((t.at_ + 1 : Nat) : Int)), ptr a.yc, ptr yp, av, i64 (t.live), i64 (t.err), i64 (t.on), .bool false, i64 (t.ond)], rowO 3 1 (.slice (some ⟨a.pb, 0, none⟩) p.P.length a.pc) p.P.length (ints p.P), rowO 3 1 (.slice (some ⟨a.lb, 0, none⟩) p.LL.length a.lc) p.LL.length (ints p.LL), rowO 3 1 (.slice (some ⟨a.hb, 0, none⟩) p.path.length a.hc) p.path.length (ints (nats p.path)), r11O a.C p.K p.th a.yc t.cl, refO B m x.W x.L] w3 from by repeat (with_reducible first | exact HS.out | apply Sx.alloc | apply Sx.drewN | apply Sx.drew)))
  have qy := hb.k22
  clear hb
  go_wp2_with fail
  go_ret
  exact ⟨rfl, (show Sx R w0 [refO B m x.W x.L, Ass.blk y 71 [i64 p.tt, i64 (p.s : Int), i64 p.g, i64 p.lm, i64 p.r, i64 (p.K : Int), .slice (some ⟨a.pb, 0, none⟩) p.P.length a.pc, .slice (some ⟨a.lb, 0, none⟩) p.LL.length a.lc, i64 (p.nd : Int), i64 p.n, i64 (p.th : Int), .slice (some ⟨a.hb, 0, none⟩) p.path.length a.hc, i64 (((3 : Nat) : Int)), i64 (((t.at_ + 1 : Nat) : Int)), ptr a.yc, ptr yp, av, i64 (t.live), i64 (t.err), i64 (t.on), .bool false, i64 (t.ond)], rowO 3 1 (.slice (some ⟨a.pb, 0, none⟩) p.P.length a.pc) p.P.length (ints p.P), rowO 3 1 (.slice (some ⟨a.lb, 0, none⟩) p.LL.length a.lc) p.LL.length (ints p.LL), rowO 3 1 (.slice (some ⟨a.hb, 0, none⟩) p.path.length a.hc) p.path.length (ints (nats p.path)), r11O a.C p.K p.th a.yc t.cl] _ from (Sx.pick (Sx.pick (Sx.pick (Sx.pick (Sx.pick (Sx.pick (show Sx R w0 [Ass.blk y 71 [i64 p.tt, i64 (p.s : Int), i64 p.g, i64 p.lm, i64 p.r, i64 (p.K : Int), .slice (some ⟨a.pb, 0, none⟩) p.P.length a.pc, .slice (some ⟨a.lb, 0, none⟩) p.LL.length a.lc, i64 (p.nd : Int), i64 p.n, i64 (p.th : Int), .slice (some ⟨a.hb, 0, none⟩) p.path.length a.hc, i64 (((3 : Nat) : Int)), i64 (((t.at_ + 1 : Nat) : Int)), ptr a.yc, ptr yp, av, i64 (t.live), i64 (t.err), i64 (t.on), .bool false, i64 (t.ond)], rowO 3 1 (.slice (some ⟨a.pb, 0, none⟩) p.P.length a.pc) p.P.length (ints p.P), rowO 3 1 (.slice (some ⟨a.lb, 0, none⟩) p.LL.length a.lc) p.LL.length (ints p.LL), rowO 3 1 (.slice (some ⟨a.hb, 0, none⟩) p.path.length a.hc) p.path.length (ints (nats p.path)), r11O a.C p.K p.th a.yc t.cl, refO B m x.W x.L] _ from by repeat (with_reducible first | exact HS.out | apply Sx.alloc | apply Sx.drewN | apply Sx.drew)) 4 (by simp)) 4 (by simp)) 4 (by simp)) 4 (by simp)) 4 (by simp)) 5 (by simp)))⟩
set_option maxHeartbeats 4000000 in
theorem r12_step1next {yp : Nat} {X : Int} (hp : P12OK p) (ha : t.at_ < p.path.length) (hn : t.cl.n < p.K) (hpi : PInv (p.av (p.v t.at_)) (p.le (p.v t.at_) p.u) p.n p.lm X t.pl) (hX : X ≤ 4398046511104) (hW : t.W.length ≤ 1000000) (hL : t.L.length ≤ 1000000000) (h7 : (pNext (p.av (p.v t.at_)) (p.le (p.v t.at_) p.u) p.n p.lm t.pl).next = 7) (hb : (pNext (p.av (p.v t.at_)) (p.le (p.v t.at_) p.u) p.n p.lm t.pl).bad = false) (hl : t.at_ + 1 < p.path.length) (h : (stars (refO B m t.W t.L :: [Ass.blk y 71 [i64 p.tt, i64 (p.s : Int), i64 p.g, i64 p.lm, i64 p.r, i64 (p.K : Int), .slice (some ⟨a.pb, 0, none⟩) p.P.length a.pc, .slice (some ⟨a.lb, 0, none⟩) p.LL.length a.lc, i64 (p.nd : Int), i64 p.n, i64 (p.th : Int), .slice (some ⟨a.hb, 0, none⟩) p.path.length a.hc, i64 (((1 : Nat) : Int)), i64 ((t.at_ : Nat)), ptr a.yc, ptr yp, av, i64 (t.live), i64 (t.err), i64 (t.on), .bool false, i64 (t.ond)], rowO 3 1 (.slice (some ⟨a.pb, 0, none⟩) p.P.length a.pc) p.P.length (ints p.P), rowO 3 1 (.slice (some ⟨a.lb, 0, none⟩) p.LL.length a.lc) p.LL.length (ints p.LL), rowO 3 1 (.slice (some ⟨a.hb, 0, none⟩) p.path.length a.hc) p.path.length (ints (nats p.path)), r11O a.C p.K p.th a.yc t.cl, r8A p.s p.lm p.K (p.v t.at_) p.n p.u yp t.po])).At R w) :
 Calls Try.prog 37 #[ptr y, ptr m] w fun e w' => ∃ v : Value, e = .returned (.bool false) ∧ Tr (stars ((refO B m (pNext (p.av (p.v t.at_)) (p.le (p.v t.at_) p.u) p.n p.lm t.pl).W (pNext (p.av (p.v t.at_)) (p.le (p.v t.at_) p.u) p.n p.lm t.pl).L) :: (Ass.ex fun y' : Nat => (r8A p.s p.lm p.K (p.v (t.at_ + 1)) p.n p.u y' (po0)).with_ (v = ptr y')) :: [Ass.blk y 71 [i64 p.tt, i64 (p.s : Int), i64 p.g, i64 p.lm, i64 p.r, i64 (p.K : Int), .slice (some ⟨a.pb, 0, none⟩) p.P.length a.pc, .slice (some ⟨a.lb, 0, none⟩) p.LL.length a.lc, i64 (p.nd : Int), i64 p.n, i64 (p.th : Int), .slice (some ⟨a.hb, 0, none⟩) p.path.length a.hc, i64 (((1 : Nat) : Int)), i64 (((t.at_ + 1 : Nat) : Int)), ptr a.yc, v, av, i64 (t.live), i64 (t.err), i64 (t.on), .bool false, i64 (t.ond)], rowO 3 1 (.slice (some ⟨a.pb, 0, none⟩) p.P.length a.pc) p.P.length (ints p.P), rowO 3 1 (.slice (some ⟨a.lb, 0, none⟩) p.LL.length a.lc) p.LL.length (ints p.LL), rowO 3 1 (.slice (some ⟨a.hb, 0, none⟩) p.path.length a.hc) p.path.length (ints (nats p.path)), r11O a.C p.K p.th a.yc t.cl])) R w w' := by
 obtain ⟨w0, hw0⟩ : ∃ v, v = w := ⟨_, rfl⟩
 rw [← hw0] at h ⊢
 have HS := hid (show Sx R w0 [refO B m t.W t.L, Ass.blk y 71 [i64 p.tt, i64 (p.s : Int), i64 p.g, i64 p.lm, i64 p.r, i64 (p.K : Int), .slice (some ⟨a.pb, 0, none⟩) p.P.length a.pc, .slice (some ⟨a.lb, 0, none⟩) p.LL.length a.lc, i64 (p.nd : Int), i64 p.n, i64 (p.th : Int), .slice (some ⟨a.hb, 0, none⟩) p.path.length a.hc, i64 (((1 : Nat) : Int)), i64 ((t.at_ : Nat)), ptr a.yc, ptr yp, av, i64 (t.live), i64 (t.err), i64 (t.on), .bool false, i64 (t.ond)], rowO 3 1 (.slice (some ⟨a.pb, 0, none⟩) p.P.length a.pc) p.P.length (ints p.P), rowO 3 1 (.slice (some ⟨a.lb, 0, none⟩) p.LL.length a.lc) p.LL.length (ints p.LL), rowO 3 1 (.slice (some ⟨a.hb, 0, none⟩) p.path.length a.hc) p.path.length (ints (nats p.path)), r11O a.C p.K p.th a.yc t.cl, r8A p.s p.lm p.K (p.v t.at_) p.n p.u yp t.po] w0 from Sx.start h)
 clear h hw0
 obtain ⟨x, hx⟩ : ∃ x, x = pNext (p.av (p.v t.at_)) (p.le (p.v t.at_) p.u) p.n p.lm t.pl := ⟨_, rfl⟩
 rw [← hx] at h7 hb ⊢
 have HXN := hid hx
 clear hx
 have hva := hp.v1 ha
 have hua := hp.u1
 have hpl1 := hp.p1
 have hsq := hp.s8
 have hs8 := hp.s8
 have hp1 := hp.p1
 have hk1 := hp.k1
 obtain ⟨ae, hae⟩ : ∃ ae : Int, ae = (if t.cl.fin = 2 then 3 else 0) := ⟨_, rfl⟩
 have HAE := hid hae
 clear hae
 have htk0 := fun w' => ref_Ticket p.tt p.s p.g p.lm p.r p.K (some ⟨a.pb, 0, none⟩) p.P.length a.pc (some ⟨a.lb, 0, none⟩) p.LL.length a.lc (t.cl.n : Int) w' (by omega) (by omega) (by omega) (by omega) (by omega)
 rw [show (p.P.length : Int) * (6 + 2 * (p.s : Int)) + 2 * (t.cl.n : Int) = ((t.tk p : Nat) : Int) from by unfold S12.tk P12.q; push_cast; rfl] at htk0
 have HTK := hid htk0
 clear htk0
 go_enter Try.func37, Try.ntmps37
 go_upto_region 1 with fail
 apply wp_region_text (WI := fun S wx => Keep0 w0 wx) (by kernel_rfl) (by kernel_rfl)
 case hob =>
  iterate 8
   apply Oblig.cons
   case h =>
    intro S w1 hwi hSi hd hcl
    apply StepOk.intro
    intro K hK
    obtain ⟨_, ⟨hb, _⟩, _⟩ := Sx.get (Sx.pick (Sx.keep HS.out hwi) 1 (by simp))
    have qy := hb.k22
    clear hb
    obtain ⟨_, ⟨hcl, _⟩, _⟩ := Sx.get (Sx.pick (Sx.keep HS.out hwi) 5 (by simp))
    go_simp
    apply hK
    · rfl
    · conv => (lhs; whnf)
    · exact hwi
   simp only [put_lit, put_none]
   try dsimp only [List.set_cons_succ, List.set_cons_zero]
  apply Oblig.cons
  case h =>
   intro S w1 hwi hSi hd hcl
   apply StepOk.intro
   intro K hK
   obtain ⟨_, ⟨hb, _⟩, _⟩ := Sx.get (Sx.pick (Sx.keep HS.out hwi) 1 (by simp))
   have qy := hb.k22
   clear hb
   obtain ⟨_, ⟨hcl, _⟩, _⟩ := Sx.get (Sx.pick (Sx.keep HS.out hwi) 5 (by simp))
   go_simp
   refine (show Calls Try.prog 52 _ w1 (Ret (.agg #[i64 ae, i64 (t.cl.n : Int), .bool false, i64 0]) w1) from by have h := r11_Ans t.cl hcl; unfold clAns at h; rw [← HAE.out] at h; exact h).mono ?_
   rintro e w2 ⟨rfl, hk⟩
   apply hK
   · rfl
   · conv => (lhs; whnf)
   · exact Keep0.step hwi hk
  simp only [put_lit, put_none]
  try dsimp only [List.set_cons_succ, List.set_cons_zero]
  apply Oblig.cons
  case h =>
   intro S w1 hwi hSi hd hcl
   apply StepOk.intro
   intro K hK
   obtain ⟨_, ⟨hb, _⟩, _⟩ := Sx.get (Sx.pick (Sx.keep HS.out hwi) 1 (by simp))
   have qy := hb.k22
   clear hb
   obtain ⟨_, ⟨hcl, _⟩, _⟩ := Sx.get (Sx.pick (Sx.keep HS.out hwi) 5 (by simp))
   go_simp
   apply hK
   · rfl
   · conv => (lhs; whnf)
   · exact hwi
  simp only [put_lit, put_none]
  try dsimp only [List.set_cons_succ, List.set_cons_zero]
  apply Oblig.cons
  case h =>
   intro S w1 hwi hSi hd hcl
   apply StepOk.intro
   intro K hK
   go_simp
   refine (HTK.out _).mono ?_
   rintro e w2 ⟨rfl, hk⟩
   apply hK
   · rfl
   · conv => (lhs; whnf)
   · exact Keep0.step hwi hk
  simp only [put_lit, put_none]
  try dsimp only [List.set_cons_succ, List.set_cons_zero]
  apply Oblig.cons
  case h =>
   intro S w1 hwi hSi hd hcl
   apply StepOk.intro
   intro K hK
   obtain ⟨_, ⟨hb, _⟩, _⟩ := Sx.get (Sx.pick (Sx.keep HS.out hwi) 1 (by simp))
   have qy := hb.k22
   clear hb
   obtain ⟨_, ⟨hcl, _⟩, _⟩ := Sx.get (Sx.pick (Sx.keep HS.out hwi) 5 (by simp))
   go_simp
   apply hK
   · rfl
   · conv => (lhs; whnf)
   · exact hwi
  simp only [put_lit, put_none]
  try dsimp only [List.set_cons_succ, List.set_cons_zero]
  exact Oblig.nil
 case h0 =>
  exact (Keep.refl _ _).drew
 case hend =>
  intro S wx hwi hall
  have hkx := hwi
  obtain ⟨w1, hwn⟩ : ∃ v, v = wx := ⟨_, rfl⟩
  rw [← hwn] at hkx ⊢
  have hs := hid (show Sx R w0 [refO B m t.W t.L, Ass.blk y 71 [i64 p.tt, i64 (p.s : Int), i64 p.g, i64 p.lm, i64 p.r, i64 (p.K : Int), .slice (some ⟨a.pb, 0, none⟩) p.P.length a.pc, .slice (some ⟨a.lb, 0, none⟩) p.LL.length a.lc, i64 (p.nd : Int), i64 p.n, i64 (p.th : Int), .slice (some ⟨a.hb, 0, none⟩) p.path.length a.hc, i64 (((1 : Nat) : Int)), i64 ((t.at_ : Nat)), ptr a.yc, ptr yp, av, i64 (t.live), i64 (t.err), i64 (t.on), .bool false, i64 (t.ond)], rowO 3 1 (.slice (some ⟨a.pb, 0, none⟩) p.P.length a.pc) p.P.length (ints p.P), rowO 3 1 (.slice (some ⟨a.lb, 0, none⟩) p.LL.length a.lc) p.LL.length (ints p.LL), rowO 3 1 (.slice (some ⟨a.hb, 0, none⟩) p.path.length a.hc) p.path.length (ints (nats p.path)), r11O a.C p.K p.th a.yc t.cl, r8A p.s p.lm p.K (p.v t.at_) p.n p.u yp t.po] w1 from Sx.keep HS.out hkx)
  clear hwi hall hkx hwn HS
  have HS := hs
  clear hs
  obtain ⟨_, ⟨hb, _⟩, _⟩ := Sx.get (show Sx R w0 [Ass.blk y 71 [i64 p.tt, i64 (p.s : Int), i64 p.g, i64 p.lm, i64 p.r, i64 (p.K : Int), .slice (some ⟨a.pb, 0, none⟩) p.P.length a.pc, .slice (some ⟨a.lb, 0, none⟩) p.LL.length a.lc, i64 (p.nd : Int), i64 p.n, i64 (p.th : Int), .slice (some ⟨a.hb, 0, none⟩) p.path.length a.hc, i64 (((1 : Nat) : Int)), i64 ((t.at_ : Nat)), ptr a.yc, ptr yp, av, i64 (t.live), i64 (t.err), i64 (t.on), .bool false, i64 (t.ond)], refO B m t.W t.L, rowO 3 1 (.slice (some ⟨a.pb, 0, none⟩) p.P.length a.pc) p.P.length (ints p.P), rowO 3 1 (.slice (some ⟨a.lb, 0, none⟩) p.LL.length a.lc) p.LL.length (ints p.LL), rowO 3 1 (.slice (some ⟨a.hb, 0, none⟩) p.path.length a.hc) p.path.length (ints (nats p.path)), r11O a.C p.K p.th a.yc t.cl, r8A p.s p.lm p.K (p.v t.at_) p.n p.u yp t.po] w1 from (Sx.pick (show Sx R w0 [refO B m t.W t.L, Ass.blk y 71 [i64 p.tt, i64 (p.s : Int), i64 p.g, i64 p.lm, i64 p.r, i64 (p.K : Int), .slice (some ⟨a.pb, 0, none⟩) p.P.length a.pc, .slice (some ⟨a.lb, 0, none⟩) p.LL.length a.lc, i64 (p.nd : Int), i64 p.n, i64 (p.th : Int), .slice (some ⟨a.hb, 0, none⟩) p.path.length a.hc, i64 (((1 : Nat) : Int)), i64 ((t.at_ : Nat)), ptr a.yc, ptr yp, av, i64 (t.live), i64 (t.err), i64 (t.on), .bool false, i64 (t.ond)], rowO 3 1 (.slice (some ⟨a.pb, 0, none⟩) p.P.length a.pc) p.P.length (ints p.P), rowO 3 1 (.slice (some ⟨a.lb, 0, none⟩) p.LL.length a.lc) p.LL.length (ints p.LL), rowO 3 1 (.slice (some ⟨a.hb, 0, none⟩) p.path.length a.hc) p.path.length (ints (nats p.path)), r11O a.C p.K p.th a.yc t.cl, r8A p.s p.lm p.K (p.v t.at_) p.n p.u yp t.po] w1 from by repeat (with_reducible first | exact HS.out | apply Sx.alloc | apply Sx.drewN | apply Sx.drew)) 1 (by simp)))
  have qy := hb.k22
  clear hb
  go_wp2_with fail
  refine Calls.mono (Sx.call (q := Ass.star (refO B m x.W x.L) (r8A p.s p.lm p.K (p.v t.at_) p.n p.u yp x)) (Sx.pair (show Sx R w0 [refO B m t.W t.L, r8A p.s p.lm p.K (p.v t.at_) p.n p.u yp t.po, Ass.blk y 71 [i64 p.tt, i64 (p.s : Int), i64 p.g, i64 p.lm, i64 p.r, i64 (p.K : Int), .slice (some ⟨a.pb, 0, none⟩) p.P.length a.pc, .slice (some ⟨a.lb, 0, none⟩) p.LL.length a.lc, i64 (p.nd : Int), i64 p.n, i64 (p.th : Int), .slice (some ⟨a.hb, 0, none⟩) p.path.length a.hc, i64 (((1 : Nat) : Int)), i64 ((t.at_ : Nat)), ptr a.yc, ptr yp, av, i64 (t.live), i64 (t.err), i64 (t.on), .bool false, i64 (t.ond)], rowO 3 1 (.slice (some ⟨a.pb, 0, none⟩) p.P.length a.pc) p.P.length (ints p.P), rowO 3 1 (.slice (some ⟨a.lb, 0, none⟩) p.LL.length a.lc) p.LL.length (ints p.LL), rowO 3 1 (.slice (some ⟨a.hb, 0, none⟩) p.path.length a.hc) p.path.length (ints (nats p.path)), r11O a.C p.K p.th a.yc t.cl] _ from (Sx.pick (Sx.pick (show Sx R w0 [refO B m t.W t.L, Ass.blk y 71 [i64 p.tt, i64 (p.s : Int), i64 p.g, i64 p.lm, i64 p.r, i64 (p.K : Int), .slice (some ⟨a.pb, 0, none⟩) p.P.length a.pc, .slice (some ⟨a.lb, 0, none⟩) p.LL.length a.lc, i64 (p.nd : Int), i64 p.n, i64 (p.th : Int), .slice (some ⟨a.hb, 0, none⟩) p.path.length a.hc, i64 (((1 : Nat) : Int)), i64 ((t.at_ : Nat)), ptr a.yc, ptr yp, av, i64 (t.live), i64 (t.err), i64 (t.on), .bool false, i64 (t.ond)], rowO 3 1 (.slice (some ⟨a.pb, 0, none⟩) p.P.length a.pc) p.P.length (ints p.P), rowO 3 1 (.slice (some ⟨a.lb, 0, none⟩) p.LL.length a.lc) p.LL.length (ints p.LL), rowO 3 1 (.slice (some ⟨a.hb, 0, none⟩) p.path.length a.hc) p.path.length (ints (nats p.path)), r11O a.C p.K p.th a.yc t.cl, r8A p.s p.lm p.K (p.v t.at_) p.n p.u yp t.po] _ from by repeat (with_reducible first | exact HS.out | apply Sx.alloc | apply Sx.drewN | apply Sx.drew)) 6 (by simp)) 1 (by simp)))) (fun Rq hr hz => (show Calls Try.prog 55 _ _ (fun e w' => e = .returned (.bool (decide (x.next = 7))) ∧ Tr _ Rq _ w') from by rw [HXN.out]; exact r8A_Step (x := t.pl) hr hpi hX hL hW (by omega) (by omega) (by omega) (by unfold P12.av; push_cast; rfl) (by unfold P12.le; push_cast; rfl)))) ?_
  rintro e w2 ⟨rfl, hs⟩
  clear HS
  have HS := hid (show Sx R w0 [refO B m x.W x.L, r8A p.s p.lm p.K (p.v t.at_) p.n p.u yp x, Ass.blk y 71 [i64 p.tt, i64 (p.s : Int), i64 p.g, i64 p.lm, i64 p.r, i64 (p.K : Int), .slice (some ⟨a.pb, 0, none⟩) p.P.length a.pc, .slice (some ⟨a.lb, 0, none⟩) p.LL.length a.lc, i64 (p.nd : Int), i64 p.n, i64 (p.th : Int), .slice (some ⟨a.hb, 0, none⟩) p.path.length a.hc, i64 (((1 : Nat) : Int)), i64 ((t.at_ : Nat)), ptr a.yc, ptr yp, av, i64 (t.live), i64 (t.err), i64 (t.on), .bool false, i64 (t.ond)], rowO 3 1 (.slice (some ⟨a.pb, 0, none⟩) p.P.length a.pc) p.P.length (ints p.P), rowO 3 1 (.slice (some ⟨a.lb, 0, none⟩) p.LL.length a.lc) p.LL.length (ints p.LL), rowO 3 1 (.slice (some ⟨a.hb, 0, none⟩) p.path.length a.hc) p.path.length (ints (nats p.path)), r11O a.C p.K p.th a.yc t.cl] w2 from Sx.part hs)
  clear hs
  clear qy
  obtain ⟨_, ⟨hb, _⟩, _⟩ := Sx.get (show Sx R w0 [Ass.blk y 71 [i64 p.tt, i64 (p.s : Int), i64 p.g, i64 p.lm, i64 p.r, i64 (p.K : Int), .slice (some ⟨a.pb, 0, none⟩) p.P.length a.pc, .slice (some ⟨a.lb, 0, none⟩) p.LL.length a.lc, i64 (p.nd : Int), i64 p.n, i64 (p.th : Int), .slice (some ⟨a.hb, 0, none⟩) p.path.length a.hc, i64 (((1 : Nat) : Int)), i64 ((t.at_ : Nat)), ptr a.yc, ptr yp, av, i64 (t.live), i64 (t.err), i64 (t.on), .bool false, i64 (t.ond)], refO B m x.W x.L, r8A p.s p.lm p.K (p.v t.at_) p.n p.u yp x, rowO 3 1 (.slice (some ⟨a.pb, 0, none⟩) p.P.length a.pc) p.P.length (ints p.P), rowO 3 1 (.slice (some ⟨a.lb, 0, none⟩) p.LL.length a.lc) p.LL.length (ints p.LL), rowO 3 1 (.slice (some ⟨a.hb, 0, none⟩) p.path.length a.hc) p.path.length (ints (nats p.path)), r11O a.C p.K p.th a.yc t.cl] w2 from (Sx.pick (show Sx R w0 [refO B m x.W x.L, r8A p.s p.lm p.K (p.v t.at_) p.n p.u yp x, Ass.blk y 71 [i64 p.tt, i64 (p.s : Int), i64 p.g, i64 p.lm, i64 p.r, i64 (p.K : Int), .slice (some ⟨a.pb, 0, none⟩) p.P.length a.pc, .slice (some ⟨a.lb, 0, none⟩) p.LL.length a.lc, i64 (p.nd : Int), i64 p.n, i64 (p.th : Int), .slice (some ⟨a.hb, 0, none⟩) p.path.length a.hc, i64 (((1 : Nat) : Int)), i64 ((t.at_ : Nat)), ptr a.yc, ptr yp, av, i64 (t.live), i64 (t.err), i64 (t.on), .bool false, i64 (t.ond)], rowO 3 1 (.slice (some ⟨a.pb, 0, none⟩) p.P.length a.pc) p.P.length (ints p.P), rowO 3 1 (.slice (some ⟨a.lb, 0, none⟩) p.LL.length a.lc) p.LL.length (ints p.LL), rowO 3 1 (.slice (some ⟨a.hb, 0, none⟩) p.path.length a.hc) p.path.length (ints (nats p.path)), r11O a.C p.K p.th a.yc t.cl] w2 from by repeat (with_reducible first | exact HS.out | apply Sx.alloc | apply Sx.drewN | apply Sx.drew)) 2 (by simp)))
  have qy := hb.k22
  clear hb
  have g1 : decide (x.next = 7) = true := by simp [h7]
  rw [g1]
  clear g1
  go_wp2_with fail
  have hs := hid (show Sx R w0 [r8A p.s p.lm p.K (p.v t.at_) p.n p.u yp x, Ass.blk y 71 [i64 p.tt, i64 (p.s : Int), i64 p.g, i64 p.lm, i64 p.r, i64 (p.K : Int), .slice (some ⟨a.pb, 0, none⟩) p.P.length a.pc, .slice (some ⟨a.lb, 0, none⟩) p.LL.length a.lc, i64 (p.nd : Int), i64 p.n, i64 (p.th : Int), .slice (some ⟨a.hb, 0, none⟩) p.path.length a.hc, i64 (((1 : Nat) : Int)), i64 ((t.at_ : Nat)), ptr a.yc, ptr yp, av, i64 (t.live), i64 (t.err), i64 (t.on), .bool false, i64 (t.ond)], rowO 3 1 (.slice (some ⟨a.pb, 0, none⟩) p.P.length a.pc) p.P.length (ints p.P), rowO 3 1 (.slice (some ⟨a.lb, 0, none⟩) p.LL.length a.lc) p.LL.length (ints p.LL), rowO 3 1 (.slice (some ⟨a.hb, 0, none⟩) p.path.length a.hc) p.path.length (ints (nats p.path)), r11O a.C p.K p.th a.yc t.cl, refO B m x.W x.L] w2 from (Sx.pick (Sx.pick (Sx.pick (Sx.pick (Sx.pick (Sx.pick (show Sx R w0 [refO B m x.W x.L, r8A p.s p.lm p.K (p.v t.at_) p.n p.u yp x, Ass.blk y 71 [i64 p.tt, i64 (p.s : Int), i64 p.g, i64 p.lm, i64 p.r, i64 (p.K : Int), .slice (some ⟨a.pb, 0, none⟩) p.P.length a.pc, .slice (some ⟨a.lb, 0, none⟩) p.LL.length a.lc, i64 (p.nd : Int), i64 p.n, i64 (p.th : Int), .slice (some ⟨a.hb, 0, none⟩) p.path.length a.hc, i64 (((1 : Nat) : Int)), i64 ((t.at_ : Nat)), ptr a.yc, ptr yp, av, i64 (t.live), i64 (t.err), i64 (t.on), .bool false, i64 (t.ond)], rowO 3 1 (.slice (some ⟨a.pb, 0, none⟩) p.P.length a.pc) p.P.length (ints p.P), rowO 3 1 (.slice (some ⟨a.lb, 0, none⟩) p.LL.length a.lc) p.LL.length (ints p.LL), rowO 3 1 (.slice (some ⟨a.hb, 0, none⟩) p.path.length a.hc) p.path.length (ints (nats p.path)), r11O a.C p.K p.th a.yc t.cl] w2 from by repeat (with_reducible first | exact HS.out | apply Sx.alloc | apply Sx.drewN | apply Sx.drew)) 6 (by simp)) 6 (by simp)) 6 (by simp)) 6 (by simp)) 6 (by simp)) 6 (by simp)))
  clear HS
  have HS := hs
  clear hs
  refine Calls.mono (Sx.callx (Sx.group [r8A p.s p.lm p.K (p.v t.at_) p.n p.u yp x, Ass.blk y 71 [i64 p.tt, i64 (p.s : Int), i64 p.g, i64 p.lm, i64 p.r, i64 (p.K : Int), .slice (some ⟨a.pb, 0, none⟩) p.P.length a.pc, .slice (some ⟨a.lb, 0, none⟩) p.LL.length a.lc, i64 (p.nd : Int), i64 p.n, i64 (p.th : Int), .slice (some ⟨a.hb, 0, none⟩) p.path.length a.hc, i64 (((1 : Nat) : Int)), i64 ((t.at_ : Nat)), ptr a.yc, ptr yp, av, i64 (t.live), i64 (t.err), i64 (t.on), .bool false, i64 (t.ond)], rowO 3 1 (.slice (some ⟨a.pb, 0, none⟩) p.P.length a.pc) p.P.length (ints p.P), rowO 3 1 (.slice (some ⟨a.lb, 0, none⟩) p.LL.length a.lc) p.LL.length (ints p.LL), rowO 3 1 (.slice (some ⟨a.hb, 0, none⟩) p.path.length a.hc) p.path.length (ints (nats p.path)), r11O a.C p.K p.th a.yc t.cl] (l := [refO B m x.W x.L]) HS.out) (fun Rq hr _ => r12_pooled_next (t := { t with ph := 1, po := x }) (av := av) hp hb hl hr)) ?_
  rintro e w3 ⟨v, rfl, hs⟩
  clear HS
  have HS := hid (show Sx R w0 [(Ass.ex fun y' : Nat => (r8A p.s p.lm p.K (p.v (t.at_ + 1)) p.n p.u y' (po0)).with_ (v = ptr y')), Ass.blk y 71 [i64 p.tt, i64 (p.s : Int), i64 p.g, i64 p.lm, i64 p.r, i64 (p.K : Int), .slice (some ⟨a.pb, 0, none⟩) p.P.length a.pc, .slice (some ⟨a.lb, 0, none⟩) p.LL.length a.lc, i64 (p.nd : Int), i64 p.n, i64 (p.th : Int), .slice (some ⟨a.hb, 0, none⟩) p.path.length a.hc, i64 (((1 : Nat) : Int)), i64 (((t.at_ + 1 : Nat) : Int)), ptr a.yc, v, av, i64 (t.live), i64 (t.err), i64 (t.on), .bool false, i64 (t.ond)], rowO 3 1 (.slice (some ⟨a.pb, 0, none⟩) p.P.length a.pc) p.P.length (ints p.P), rowO 3 1 (.slice (some ⟨a.lb, 0, none⟩) p.LL.length a.lc) p.LL.length (ints p.LL), rowO 3 1 (.slice (some ⟨a.hb, 0, none⟩) p.path.length a.hc) p.path.length (ints (nats p.path)), r11O a.C p.K p.th a.yc t.cl, refO B m x.W x.L] w3 from Sx.ungroup _ hs)
  clear hs qy
  obtain ⟨_, ⟨hb, _⟩, _⟩ := Sx.get (show Sx R w0 [Ass.blk y 71 [i64 p.tt, i64 (p.s : Int), i64 p.g, i64 p.lm, i64 p.r, i64 (p.K : Int), .slice (some ⟨a.pb, 0, none⟩) p.P.length a.pc, .slice (some ⟨a.lb, 0, none⟩) p.LL.length a.lc, i64 (p.nd : Int), i64 p.n, i64 (p.th : Int), .slice (some ⟨a.hb, 0, none⟩) p.path.length a.hc, i64 (((1 : Nat) : Int)), i64 (((t.at_ + 1 : Nat) : Int)), ptr a.yc, v, av, i64 (t.live), i64 (t.err), i64 (t.on), .bool false, i64 (t.ond)], (Ass.ex fun y' : Nat => (r8A p.s p.lm p.K (p.v (t.at_ + 1)) p.n p.u y' (po0)).with_ (v = ptr y')), rowO 3 1 (.slice (some ⟨a.pb, 0, none⟩) p.P.length a.pc) p.P.length (ints p.P), rowO 3 1 (.slice (some ⟨a.lb, 0, none⟩) p.LL.length a.lc) p.LL.length (ints p.LL), rowO 3 1 (.slice (some ⟨a.hb, 0, none⟩) p.path.length a.hc) p.path.length (ints (nats p.path)), r11O a.C p.K p.th a.yc t.cl, refO B m x.W x.L] w3 from (Sx.pick (show Sx R w0 [(Ass.ex fun y' : Nat => (r8A p.s p.lm p.K (p.v (t.at_ + 1)) p.n p.u y' (po0)).with_ (v = ptr y')), Ass.blk y 71 [i64 p.tt, i64 (p.s : Int), i64 p.g, i64 p.lm, i64 p.r, i64 (p.K : Int), .slice (some ⟨a.pb, 0, none⟩) p.P.length a.pc, .slice (some ⟨a.lb, 0, none⟩) p.LL.length a.lc, i64 (p.nd : Int), i64 p.n, i64 (p.th : Int), .slice (some ⟨a.hb, 0, none⟩) p.path.length a.hc, i64 (((1 : Nat) : Int)), i64 (((t.at_ + 1 : Nat) : Int)), ptr a.yc, v, av, i64 (t.live), i64 (t.err), i64 (t.on), .bool false, i64 (t.ond)], rowO 3 1 (.slice (some ⟨a.pb, 0, none⟩) p.P.length a.pc) p.P.length (ints p.P), rowO 3 1 (.slice (some ⟨a.lb, 0, none⟩) p.LL.length a.lc) p.LL.length (ints p.LL), rowO 3 1 (.slice (some ⟨a.hb, 0, none⟩) p.path.length a.hc) p.path.length (ints (nats p.path)), r11O a.C p.K p.th a.yc t.cl, refO B m x.W x.L] w3 from by repeat (with_reducible first | exact HS.out | apply Sx.alloc | apply Sx.drewN | apply Sx.drew)) 1 (by simp)))
  have qy := hb.k22
  clear hb
  go_wp2_with fail
  go_ret
  exact ⟨v, rfl, (show Sx R w0 [refO B m x.W x.L, (Ass.ex fun y' : Nat => (r8A p.s p.lm p.K (p.v (t.at_ + 1)) p.n p.u y' (po0)).with_ (v = ptr y')), Ass.blk y 71 [i64 p.tt, i64 (p.s : Int), i64 p.g, i64 p.lm, i64 p.r, i64 (p.K : Int), .slice (some ⟨a.pb, 0, none⟩) p.P.length a.pc, .slice (some ⟨a.lb, 0, none⟩) p.LL.length a.lc, i64 (p.nd : Int), i64 p.n, i64 (p.th : Int), .slice (some ⟨a.hb, 0, none⟩) p.path.length a.hc, i64 (((1 : Nat) : Int)), i64 (((t.at_ + 1 : Nat) : Int)), ptr a.yc, v, av, i64 (t.live), i64 (t.err), i64 (t.on), .bool false, i64 (t.ond)], rowO 3 1 (.slice (some ⟨a.pb, 0, none⟩) p.P.length a.pc) p.P.length (ints p.P), rowO 3 1 (.slice (some ⟨a.lb, 0, none⟩) p.LL.length a.lc) p.LL.length (ints p.LL), rowO 3 1 (.slice (some ⟨a.hb, 0, none⟩) p.path.length a.hc) p.path.length (ints (nats p.path)), r11O a.C p.K p.th a.yc t.cl] _ from (Sx.pick (Sx.pick (Sx.pick (Sx.pick (Sx.pick (Sx.pick (Sx.pick (show Sx R w0 [(Ass.ex fun y' : Nat => (r8A p.s p.lm p.K (p.v (t.at_ + 1)) p.n p.u y' (po0)).with_ (v = ptr y')), Ass.blk y 71 [i64 p.tt, i64 (p.s : Int), i64 p.g, i64 p.lm, i64 p.r, i64 (p.K : Int), .slice (some ⟨a.pb, 0, none⟩) p.P.length a.pc, .slice (some ⟨a.lb, 0, none⟩) p.LL.length a.lc, i64 (p.nd : Int), i64 p.n, i64 (p.th : Int), .slice (some ⟨a.hb, 0, none⟩) p.path.length a.hc, i64 (((1 : Nat) : Int)), i64 (((t.at_ + 1 : Nat) : Int)), ptr a.yc, v, av, i64 (t.live), i64 (t.err), i64 (t.on), .bool false, i64 (t.ond)], rowO 3 1 (.slice (some ⟨a.pb, 0, none⟩) p.P.length a.pc) p.P.length (ints p.P), rowO 3 1 (.slice (some ⟨a.lb, 0, none⟩) p.LL.length a.lc) p.LL.length (ints p.LL), rowO 3 1 (.slice (some ⟨a.hb, 0, none⟩) p.path.length a.hc) p.path.length (ints (nats p.path)), r11O a.C p.K p.th a.yc t.cl, refO B m x.W x.L] _ from by repeat (with_reducible first | exact HS.out | apply Sx.alloc | apply Sx.drewN | apply Sx.drew)) 5 (by simp)) 5 (by simp)) 5 (by simp)) 5 (by simp)) 5 (by simp)) 5 (by simp)) 6 (by simp)))⟩
end
end Go.Proofs.Ythaceckccobgeaa
