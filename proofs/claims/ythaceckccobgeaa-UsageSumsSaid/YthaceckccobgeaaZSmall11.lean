/- Contracts and plain laws for UsageSums, part 11: what the walk of the law leans on. -/
import Derived.Deep.DeepCutAuto
import Derived.Deep.LoopGhost
import Derived.Test.YthaceckccobgeaaZSmall4
import Derived.Test.YthaceckccobgeaaZSmall5
import Derived.Test.YthaceckccobgeaaZSmall9
import Derived.Test.YthaceckccobgeaaZSmall10
namespace Go.Proofs.Ythaceckccobgeaa
open Go.RowKit
set_option linter.unusedVariables false
set_option linter.unusedSimpArgs false
set_option maxRecDepth 100000
section
variable {B m y : Nat} {p : P12} {t : S12} {a : Ad12} {pv av : Value} {R : Nat → Prop} {w : World}
set_option maxHeartbeats 4000000 in
theorem r12_step4 (hp : P12OK p) (hn : t.cl.n < p.K) (htk : t.tk p < t.W.length) (hW : t.W.length ≤ 10000) (hL : t.L.length ≤ 1000000000) (h : (stars (refO B m t.W t.L :: [Ass.blk y 71 [i64 p.tt, i64 (p.s : Int), i64 p.g, i64 p.lm, i64 p.r, i64 (p.K : Int), .slice (some ⟨a.pb, 0, none⟩) p.P.length a.pc, .slice (some ⟨a.lb, 0, none⟩) p.LL.length a.lc, i64 (p.nd : Int), i64 p.n, i64 (p.th : Int), .slice (some ⟨a.hb, 0, none⟩) p.path.length a.hc, i64 (((4 : Nat) : Int)), i64 ((t.at_ : Nat)), ptr a.yc, pv, av, i64 (t.live), i64 (t.err), i64 (t.on), .bool false, i64 (t.ond)], rowO 3 1 (.slice (some ⟨a.pb, 0, none⟩) p.P.length a.pc) p.P.length (ints p.P), rowO 3 1 (.slice (some ⟨a.lb, 0, none⟩) p.LL.length a.lc) p.LL.length (ints p.LL), rowO 3 1 (.slice (some ⟨a.hb, 0, none⟩) p.path.length a.hc) p.path.length (ints (nats p.path)), r11O a.C p.K p.th a.yc t.cl])).At R w) :
 Calls Try.prog 37 #[ptr y, ptr m] w fun e w' => ∃ v : Value, e = .returned (.bool false) ∧ Tr (stars ((refO B m (t.W.set (t.tk p) (pNext6 t.cl.set 2)) (t.L ++ [⟨4, (t.tk p : Nat), pNext6 t.cl.set 2, 0, false⟩])) :: (Ass.ex fun y' : Nat => (r6O (p.ct (p.v (0))) p.s p.g p.n y' (ad0 p)).with_ (v = ptr y')) :: [Ass.blk y 71 [i64 p.tt, i64 (p.s : Int), i64 p.g, i64 p.lm, i64 p.r, i64 (p.K : Int), .slice (some ⟨a.pb, 0, none⟩) p.P.length a.pc, .slice (some ⟨a.lb, 0, none⟩) p.LL.length a.lc, i64 (p.nd : Int), i64 p.n, i64 (p.th : Int), .slice (some ⟨a.hb, 0, none⟩) p.path.length a.hc, i64 (((5 : Nat) : Int)), i64 (0), ptr a.yc, pv, v, i64 (pNext6 t.cl.set 2), i64 (t.err), i64 (t.on), .bool false, i64 (t.ond)], rowO 3 1 (.slice (some ⟨a.pb, 0, none⟩) p.P.length a.pc) p.P.length (ints p.P), rowO 3 1 (.slice (some ⟨a.lb, 0, none⟩) p.LL.length a.lc) p.LL.length (ints p.LL), rowO 3 1 (.slice (some ⟨a.hb, 0, none⟩) p.path.length a.hc) p.path.length (ints (nats p.path)), r11O a.C p.K p.th a.yc t.cl])) R w w' := by
 have hh1 := hp.h1
 obtain ⟨w0, hw0⟩ : ∃ v, v = w := ⟨_, rfl⟩
 rw [← hw0] at h ⊢
 have HS := hid (show Sx R w0 [refO B m t.W t.L, Ass.blk y 71 [i64 p.tt, i64 (p.s : Int), i64 p.g, i64 p.lm, i64 p.r, i64 (p.K : Int), .slice (some ⟨a.pb, 0, none⟩) p.P.length a.pc, .slice (some ⟨a.lb, 0, none⟩) p.LL.length a.lc, i64 (p.nd : Int), i64 p.n, i64 (p.th : Int), .slice (some ⟨a.hb, 0, none⟩) p.path.length a.hc, i64 (((4 : Nat) : Int)), i64 ((t.at_ : Nat)), ptr a.yc, pv, av, i64 (t.live), i64 (t.err), i64 (t.on), .bool false, i64 (t.ond)], rowO 3 1 (.slice (some ⟨a.pb, 0, none⟩) p.P.length a.pc) p.P.length (ints p.P), rowO 3 1 (.slice (some ⟨a.lb, 0, none⟩) p.LL.length a.lc) p.LL.length (ints p.LL), rowO 3 1 (.slice (some ⟨a.hb, 0, none⟩) p.path.length a.hc) p.path.length (ints (nats p.path)), r11O a.C p.K p.th a.yc t.cl] w0 from Sx.start h)
 clear h hw0
 have hs8 := hp.s8
 have hp1 := hp.p1
 have hk1 := hp.k1
 obtain ⟨ae, hae⟩ : ∃ ae : Int, ae = (if t.cl.fin = 2 then 3 else 0) := ⟨_, rfl⟩
 have HAE := hid hae
 clear hae
 have htk0 := fun w' => ref_Ticket p.tt p.s p.g p.lm p.r p.K (some ⟨a.pb, 0, none⟩) p.P.length a.pc (some ⟨a.lb, 0, none⟩) p.LL.length a.lc (t.cl.n : Int) w' (by omega) (by omega) (by omega) (by omega) (by omega)
 rw [show (p.P.length : Int) * (6 + 2 * (p.s : Int)) + 2 * (t.cl.n : Int) = ((t.tk p : Nat) : Int) from by unfold S12.tk P12.q; push_cast; rfl] at htk0
 have HTK := hid htk0
 clear htk0
 go_enter Try.func37, Try.ntmps37
 go_upto_region 1 with fail
 apply wp_region_text (WI := fun S wx => Keep0 w0 wx) (by kernel_rfl) (by kernel_rfl)
 case hob =>
  iterate 8
   apply Oblig.cons
   case h =>
    intro S w1 hwi hSi hd hcl
    apply StepOk.intro
    intro K hK
    obtain ⟨_, ⟨hb, _⟩, _⟩ := Sx.get (Sx.pick (Sx.keep HS.out hwi) 1 (by simp))
    have qy := hb.k22
    clear hb
    obtain ⟨_, ⟨hcl, _⟩, _⟩ := Sx.get (Sx.pick (Sx.keep HS.out hwi) 5 (by simp))
    go_simp
    apply hK
    · rfl
    · conv => (lhs; whnf)
    · exact hwi
   simp only [put_lit, put_none]
   try dsimp only [List.set_cons_succ, List.set_cons_zero]
  apply Oblig.cons
  case h =>
   intro S w1 hwi hSi hd hcl
   apply StepOk.intro
   intro K hK
   obtain ⟨_, ⟨hb, _⟩, _⟩ := Sx.get (Sx.pick (Sx.keep HS.out hwi) 1 (by simp))
   have qy := hb.k22
   clear hb
   obtain ⟨_, ⟨hcl, _⟩, _⟩ := Sx.get (Sx.pick (Sx.keep HS.out hwi) 5 (by simp))
   go_simp
   refine (show Calls Try.prog 52 _ w1 (Ret (.agg #[i64 ae, i64 (t.cl.n : Int), .bool false, i64 0]) w1) from by have h := r11_Ans t.cl hcl; unfold clAns at h; rw [← HAE.out] at h; exact h).mono ?_
   rintro e w2 ⟨rfl, hk⟩
   apply hK
   · rfl
   · conv => (lhs; whnf)
   · exact Keep0.step hwi hk
  simp only [put_lit, put_none]
  try dsimp only [List.set_cons_succ, List.set_cons_zero]
  apply Oblig.cons
  case h =>
   intro S w1 hwi hSi hd hcl
   apply StepOk.intro
   intro K hK
   obtain ⟨_, ⟨hb, _⟩, _⟩ := Sx.get (Sx.pick (Sx.keep HS.out hwi) 1 (by simp))
   have qy := hb.k22
   clear hb
   obtain ⟨_, ⟨hcl, _⟩, _⟩ := Sx.get (Sx.pick (Sx.keep HS.out hwi) 5 (by simp))
   go_simp
   apply hK
   · rfl
   · conv => (lhs; whnf)
   · exact hwi
  simp only [put_lit, put_none]
  try dsimp only [List.set_cons_succ, List.set_cons_zero]
  apply Oblig.cons
  case h =>
   intro S w1 hwi hSi hd hcl
   apply StepOk.intro
   intro K hK
   go_simp
   refine (HTK.out _).mono ?_
   rintro e w2 ⟨rfl, hk⟩
   apply hK
   · rfl
   · conv => (lhs; whnf)
   · exact Keep0.step hwi hk
  simp only [put_lit, put_none]
  try dsimp only [List.set_cons_succ, List.set_cons_zero]
  apply Oblig.cons
  case h =>
   intro S w1 hwi hSi hd hcl
   apply StepOk.intro
   intro K hK
   obtain ⟨_, ⟨hb, _⟩, _⟩ := Sx.get (Sx.pick (Sx.keep HS.out hwi) 1 (by simp))
   have qy := hb.k22
   clear hb
   obtain ⟨_, ⟨hcl, _⟩, _⟩ := Sx.get (Sx.pick (Sx.keep HS.out hwi) 5 (by simp))
   go_simp
   apply hK
   · rfl
   · conv => (lhs; whnf)
   · exact hwi
  simp only [put_lit, put_none]
  try dsimp only [List.set_cons_succ, List.set_cons_zero]
  exact Oblig.nil
 case h0 =>
  exact (Keep.refl _ _).drew
 case hend =>
  intro S wx hwi hall
  have hkx := hwi
  obtain ⟨w1, hwn⟩ : ∃ v, v = wx := ⟨_, rfl⟩
  rw [← hwn] at hkx ⊢
  have hs := hid (show Sx R w0 [refO B m t.W t.L, Ass.blk y 71 [i64 p.tt, i64 (p.s : Int), i64 p.g, i64 p.lm, i64 p.r, i64 (p.K : Int), .slice (some ⟨a.pb, 0, none⟩) p.P.length a.pc, .slice (some ⟨a.lb, 0, none⟩) p.LL.length a.lc, i64 (p.nd : Int), i64 p.n, i64 (p.th : Int), .slice (some ⟨a.hb, 0, none⟩) p.path.length a.hc, i64 (((4 : Nat) : Int)), i64 ((t.at_ : Nat)), ptr a.yc, pv, av, i64 (t.live), i64 (t.err), i64 (t.on), .bool false, i64 (t.ond)], rowO 3 1 (.slice (some ⟨a.pb, 0, none⟩) p.P.length a.pc) p.P.length (ints p.P), rowO 3 1 (.slice (some ⟨a.lb, 0, none⟩) p.LL.length a.lc) p.LL.length (ints p.LL), rowO 3 1 (.slice (some ⟨a.hb, 0, none⟩) p.path.length a.hc) p.path.length (ints (nats p.path)), r11O a.C p.K p.th a.yc t.cl] w1 from Sx.keep HS.out hkx)
  clear hwi hall hkx hwn HS
  have HS := hs
  clear hs
  obtain ⟨_, ⟨hb, _⟩, _⟩ := Sx.get (show Sx R w0 [Ass.blk y 71 [i64 p.tt, i64 (p.s : Int), i64 p.g, i64 p.lm, i64 p.r, i64 (p.K : Int), .slice (some ⟨a.pb, 0, none⟩) p.P.length a.pc, .slice (some ⟨a.lb, 0, none⟩) p.LL.length a.lc, i64 (p.nd : Int), i64 p.n, i64 (p.th : Int), .slice (some ⟨a.hb, 0, none⟩) p.path.length a.hc, i64 (((4 : Nat) : Int)), i64 ((t.at_ : Nat)), ptr a.yc, pv, av, i64 (t.live), i64 (t.err), i64 (t.on), .bool false, i64 (t.ond)], refO B m t.W t.L, rowO 3 1 (.slice (some ⟨a.pb, 0, none⟩) p.P.length a.pc) p.P.length (ints p.P), rowO 3 1 (.slice (some ⟨a.lb, 0, none⟩) p.LL.length a.lc) p.LL.length (ints p.LL), rowO 3 1 (.slice (some ⟨a.hb, 0, none⟩) p.path.length a.hc) p.path.length (ints (nats p.path)), r11O a.C p.K p.th a.yc t.cl] w1 from (Sx.pick (show Sx R w0 [refO B m t.W t.L, Ass.blk y 71 [i64 p.tt, i64 (p.s : Int), i64 p.g, i64 p.lm, i64 p.r, i64 (p.K : Int), .slice (some ⟨a.pb, 0, none⟩) p.P.length a.pc, .slice (some ⟨a.lb, 0, none⟩) p.LL.length a.lc, i64 (p.nd : Int), i64 p.n, i64 (p.th : Int), .slice (some ⟨a.hb, 0, none⟩) p.path.length a.hc, i64 (((4 : Nat) : Int)), i64 ((t.at_ : Nat)), ptr a.yc, pv, av, i64 (t.live), i64 (t.err), i64 (t.on), .bool false, i64 (t.ond)], rowO 3 1 (.slice (some ⟨a.pb, 0, none⟩) p.P.length a.pc) p.P.length (ints p.P), rowO 3 1 (.slice (some ⟨a.lb, 0, none⟩) p.LL.length a.lc) p.LL.length (ints p.LL), rowO 3 1 (.slice (some ⟨a.hb, 0, none⟩) p.path.length a.hc) p.path.length (ints (nats p.path)), r11O a.C p.K p.th a.yc t.cl] w1 from by repeat (with_reducible first | exact HS.out | apply Sx.alloc | apply Sx.drewN | apply Sx.drew)) 1 (by simp)))
  have qy := hb.k22
  clear hb
  obtain ⟨_, ⟨hcl, _⟩, _⟩ := Sx.get (show Sx R w0 [r11O a.C p.K p.th a.yc t.cl, refO B m t.W t.L, Ass.blk y 71 [i64 p.tt, i64 (p.s : Int), i64 p.g, i64 p.lm, i64 p.r, i64 (p.K : Int), .slice (some ⟨a.pb, 0, none⟩) p.P.length a.pc, .slice (some ⟨a.lb, 0, none⟩) p.LL.length a.lc, i64 (p.nd : Int), i64 p.n, i64 (p.th : Int), .slice (some ⟨a.hb, 0, none⟩) p.path.length a.hc, i64 (((4 : Nat) : Int)), i64 ((t.at_ : Nat)), ptr a.yc, pv, av, i64 (t.live), i64 (t.err), i64 (t.on), .bool false, i64 (t.ond)], rowO 3 1 (.slice (some ⟨a.pb, 0, none⟩) p.P.length a.pc) p.P.length (ints p.P), rowO 3 1 (.slice (some ⟨a.lb, 0, none⟩) p.LL.length a.lc) p.LL.length (ints p.LL), rowO 3 1 (.slice (some ⟨a.hb, 0, none⟩) p.path.length a.hc) p.path.length (ints (nats p.path))] w1 from (Sx.pick (show Sx R w0 [refO B m t.W t.L, Ass.blk y 71 [i64 p.tt, i64 (p.s : Int), i64 p.g, i64 p.lm, i64 p.r, i64 (p.K : Int), .slice (some ⟨a.pb, 0, none⟩) p.P.length a.pc, .slice (some ⟨a.lb, 0, none⟩) p.LL.length a.lc, i64 (p.nd : Int), i64 p.n, i64 (p.th : Int), .slice (some ⟨a.hb, 0, none⟩) p.path.length a.hc, i64 (((4 : Nat) : Int)), i64 ((t.at_ : Nat)), ptr a.yc, pv, av, i64 (t.live), i64 (t.err), i64 (t.on), .bool false, i64 (t.ond)], rowO 3 1 (.slice (some ⟨a.pb, 0, none⟩) p.P.length a.pc) p.P.length (ints p.P), rowO 3 1 (.slice (some ⟨a.lb, 0, none⟩) p.LL.length a.lc) p.LL.length (ints p.LL), rowO 3 1 (.slice (some ⟨a.hb, 0, none⟩) p.path.length a.hc) p.path.length (ints (nats p.path)), r11O a.C p.K p.th a.yc t.cl] w1 from by repeat (with_reducible first | exact HS.out | apply Sx.alloc | apply Sx.drewN | apply Sx.drew)) 5 (by simp)))
  have HWD := hid (r11_Word t.cl hcl)
  clear hcl
  go_wp2_with fail
  refine Calls.mono (HWD.out) ?_
  rintro e w2 ⟨rfl, hk⟩
  have hs := Sx.keep (show Sx R w0 [refO B m t.W t.L, Ass.blk y 71 [i64 p.tt, i64 (p.s : Int), i64 p.g, i64 p.lm, i64 p.r, i64 (p.K : Int), .slice (some ⟨a.pb, 0, none⟩) p.P.length a.pc, .slice (some ⟨a.lb, 0, none⟩) p.LL.length a.lc, i64 (p.nd : Int), i64 p.n, i64 (p.th : Int), .slice (some ⟨a.hb, 0, none⟩) p.path.length a.hc, i64 (((4 : Nat) : Int)), i64 ((t.at_ : Nat)), ptr a.yc, pv, av, i64 (t.live), i64 (t.err), i64 (t.on), .bool false, i64 (t.ond)], rowO 3 1 (.slice (some ⟨a.pb, 0, none⟩) p.P.length a.pc) p.P.length (ints p.P), rowO 3 1 (.slice (some ⟨a.lb, 0, none⟩) p.LL.length a.lc) p.LL.length (ints p.LL), rowO 3 1 (.slice (some ⟨a.hb, 0, none⟩) p.path.length a.hc) p.path.length (ints (nats p.path)), r11O a.C p.K p.th a.yc t.cl] _ from by repeat (with_reducible first | exact HS.out | apply Sx.alloc | apply Sx.drewN | apply Sx.drew)) hk
  clear HS
  have HS := hid (show Sx R w0 [refO B m t.W t.L, Ass.blk y 71 [i64 p.tt, i64 (p.s : Int), i64 p.g, i64 p.lm, i64 p.r, i64 (p.K : Int), .slice (some ⟨a.pb, 0, none⟩) p.P.length a.pc, .slice (some ⟨a.lb, 0, none⟩) p.LL.length a.lc, i64 (p.nd : Int), i64 p.n, i64 (p.th : Int), .slice (some ⟨a.hb, 0, none⟩) p.path.length a.hc, i64 (((4 : Nat) : Int)), i64 ((t.at_ : Nat)), ptr a.yc, pv, av, i64 (t.live), i64 (t.err), i64 (t.on), .bool false, i64 (t.ond)], rowO 3 1 (.slice (some ⟨a.pb, 0, none⟩) p.P.length a.pc) p.P.length (ints p.P), rowO 3 1 (.slice (some ⟨a.lb, 0, none⟩) p.LL.length a.lc) p.LL.length (ints p.LL), rowO 3 1 (.slice (some ⟨a.hb, 0, none⟩) p.path.length a.hc) p.path.length (ints (nats p.path)), r11O a.C p.K p.th a.yc t.cl] w2 from hs)
  clear hs hk
  clear qy HWD
  obtain ⟨_, ⟨hb, _⟩, _⟩ := Sx.get (show Sx R w0 [Ass.blk y 71 [i64 p.tt, i64 (p.s : Int), i64 p.g, i64 p.lm, i64 p.r, i64 (p.K : Int), .slice (some ⟨a.pb, 0, none⟩) p.P.length a.pc, .slice (some ⟨a.lb, 0, none⟩) p.LL.length a.lc, i64 (p.nd : Int), i64 p.n, i64 (p.th : Int), .slice (some ⟨a.hb, 0, none⟩) p.path.length a.hc, i64 (((4 : Nat) : Int)), i64 ((t.at_ : Nat)), ptr a.yc, pv, av, i64 (t.live), i64 (t.err), i64 (t.on), .bool false, i64 (t.ond)], refO B m t.W t.L, rowO 3 1 (.slice (some ⟨a.pb, 0, none⟩) p.P.length a.pc) p.P.length (ints p.P), rowO 3 1 (.slice (some ⟨a.lb, 0, none⟩) p.LL.length a.lc) p.LL.length (ints p.LL), rowO 3 1 (.slice (some ⟨a.hb, 0, none⟩) p.path.length a.hc) p.path.length (ints (nats p.path)), r11O a.C p.K p.th a.yc t.cl] w2 from (Sx.pick (show Sx R w0 [refO B m t.W t.L, Ass.blk y 71 [i64 p.tt, i64 (p.s : Int), i64 p.g, i64 p.lm, i64 p.r, i64 (p.K : Int), .slice (some ⟨a.pb, 0, none⟩) p.P.length a.pc, .slice (some ⟨a.lb, 0, none⟩) p.LL.length a.lc, i64 (p.nd : Int), i64 p.n, i64 (p.th : Int), .slice (some ⟨a.hb, 0, none⟩) p.path.length a.hc, i64 (((4 : Nat) : Int)), i64 ((t.at_ : Nat)), ptr a.yc, pv, av, i64 (t.live), i64 (t.err), i64 (t.on), .bool false, i64 (t.ond)], rowO 3 1 (.slice (some ⟨a.pb, 0, none⟩) p.P.length a.pc) p.P.length (ints p.P), rowO 3 1 (.slice (some ⟨a.lb, 0, none⟩) p.LL.length a.lc) p.LL.length (ints p.LL), rowO 3 1 (.slice (some ⟨a.hb, 0, none⟩) p.path.length a.hc) p.path.length (ints (nats p.path)), r11O a.C p.K p.th a.yc t.cl] w2 from by repeat (with_reducible first | exact HS.out | apply Sx.alloc | apply Sx.drewN | apply Sx.drew)) 1 (by simp)))
  have qy := hb.k22
  clear hb
  go_wp2_with fail
  refine Calls.mono (ref10_TurnN t.cl.set 2 _ (by omega)) ?_
  rintro e wq ⟨rfl, rfl⟩
  go_wp2_with fail
  refine Calls.mono (Sx.call (q := refO B m (t.W.set (t.tk p) (pNext6 t.cl.set 2)) (t.L ++ [⟨4, (t.tk p : Nat), pNext6 t.cl.set 2, 0, false⟩])) (show Sx R w0 [refO B m t.W t.L, Ass.blk y 71 [i64 p.tt, i64 (p.s : Int), i64 p.g, i64 p.lm, i64 p.r, i64 (p.K : Int), .slice (some ⟨a.pb, 0, none⟩) p.P.length a.pc, .slice (some ⟨a.lb, 0, none⟩) p.LL.length a.lc, i64 (p.nd : Int), i64 p.n, i64 (p.th : Int), .slice (some ⟨a.hb, 0, none⟩) p.path.length a.hc, i64 (((4 : Nat) : Int)), i64 ((t.at_ : Nat)), ptr a.yc, pv, av, i64 (t.live), i64 (t.err), i64 (t.on), .bool false, i64 (t.ond)], rowO 3 1 (.slice (some ⟨a.pb, 0, none⟩) p.P.length a.pc) p.P.length (ints p.P), rowO 3 1 (.slice (some ⟨a.lb, 0, none⟩) p.LL.length a.lc) p.LL.length (ints p.LL), rowO 3 1 (.slice (some ⟨a.hb, 0, none⟩) p.path.length a.hc) p.path.length (ints (nats p.path)), r11O a.C p.K p.th a.yc t.cl] _ from (show Sx R w0 [refO B m t.W t.L, Ass.blk y 71 [i64 p.tt, i64 (p.s : Int), i64 p.g, i64 p.lm, i64 p.r, i64 (p.K : Int), .slice (some ⟨a.pb, 0, none⟩) p.P.length a.pc, .slice (some ⟨a.lb, 0, none⟩) p.LL.length a.lc, i64 (p.nd : Int), i64 p.n, i64 (p.th : Int), .slice (some ⟨a.hb, 0, none⟩) p.path.length a.hc, i64 (((4 : Nat) : Int)), i64 ((t.at_ : Nat)), ptr a.yc, pv, av, i64 (t.live), i64 (t.err), i64 (t.on), .bool false, i64 (t.ond)], rowO 3 1 (.slice (some ⟨a.pb, 0, none⟩) p.P.length a.pc) p.P.length (ints p.P), rowO 3 1 (.slice (some ⟨a.lb, 0, none⟩) p.LL.length a.lc) p.LL.length (ints p.LL), rowO 3 1 (.slice (some ⟨a.hb, 0, none⟩) p.path.length a.hc) p.path.length (ints (nats p.path)), r11O a.C p.K p.th a.yc t.cl] _ from by repeat (with_reducible first | exact HS.out | apply Sx.alloc | apply Sx.drewN | apply Sx.drew))) (fun Rq hr hz => refO_Store (t.tk p) (pNext6 t.cl.set 2) hr (by omega) (by omega) hL)) ?_
  rintro e w3 ⟨rfl, hs⟩
  clear HS
  have HS := hid (show Sx R w0 [refO B m (t.W.set (t.tk p) (pNext6 t.cl.set 2)) (t.L ++ [⟨4, (t.tk p : Nat), pNext6 t.cl.set 2, 0, false⟩]), Ass.blk y 71 [i64 p.tt, i64 (p.s : Int), i64 p.g, i64 p.lm, i64 p.r, i64 (p.K : Int), .slice (some ⟨a.pb, 0, none⟩) p.P.length a.pc, .slice (some ⟨a.lb, 0, none⟩) p.LL.length a.lc, i64 (p.nd : Int), i64 p.n, i64 (p.th : Int), .slice (some ⟨a.hb, 0, none⟩) p.path.length a.hc, i64 (((4 : Nat) : Int)), i64 ((t.at_ : Nat)), ptr a.yc, pv, av, i64 (t.live), i64 (t.err), i64 (t.on), .bool false, i64 (t.ond)], rowO 3 1 (.slice (some ⟨a.pb, 0, none⟩) p.P.length a.pc) p.P.length (ints p.P), rowO 3 1 (.slice (some ⟨a.lb, 0, none⟩) p.LL.length a.lc) p.LL.length (ints p.LL), rowO 3 1 (.slice (some ⟨a.hb, 0, none⟩) p.path.length a.hc) p.path.length (ints (nats p.path)), r11O a.C p.K p.th a.yc t.cl] w3 from hs)
  clear hs
  clear qy
  obtain ⟨_, ⟨hb, _⟩, _⟩ := Sx.get (show Sx R w0 [Ass.blk y 71 [i64 p.tt, i64 (p.s : Int), i64 p.g, i64 p.lm, i64 p.r, i64 (p.K : Int), .slice (some ⟨a.pb, 0, none⟩) p.P.length a.pc, .slice (some ⟨a.lb, 0, none⟩) p.LL.length a.lc, i64 (p.nd : Int), i64 p.n, i64 (p.th : Int), .slice (some ⟨a.hb, 0, none⟩) p.path.length a.hc, i64 (((4 : Nat) : Int)), i64 ((t.at_ : Nat)), ptr a.yc, pv, av, i64 (t.live), i64 (t.err), i64 (t.on), .bool false, i64 (t.ond)], refO B m (t.W.set (t.tk p) (pNext6 t.cl.set 2)) (t.L ++ [⟨4, (t.tk p : Nat), pNext6 t.cl.set 2, 0, false⟩]), rowO 3 1 (.slice (some ⟨a.pb, 0, none⟩) p.P.length a.pc) p.P.length (ints p.P), rowO 3 1 (.slice (some ⟨a.lb, 0, none⟩) p.LL.length a.lc) p.LL.length (ints p.LL), rowO 3 1 (.slice (some ⟨a.hb, 0, none⟩) p.path.length a.hc) p.path.length (ints (nats p.path)), r11O a.C p.K p.th a.yc t.cl] w3 from (Sx.pick (show Sx R w0 [refO B m (t.W.set (t.tk p) (pNext6 t.cl.set 2)) (t.L ++ [⟨4, (t.tk p : Nat), pNext6 t.cl.set 2, 0, false⟩]), Ass.blk y 71 [i64 p.tt, i64 (p.s : Int), i64 p.g, i64 p.lm, i64 p.r, i64 (p.K : Int), .slice (some ⟨a.pb, 0, none⟩) p.P.length a.pc, .slice (some ⟨a.lb, 0, none⟩) p.LL.length a.lc, i64 (p.nd : Int), i64 p.n, i64 (p.th : Int), .slice (some ⟨a.hb, 0, none⟩) p.path.length a.hc, i64 (((4 : Nat) : Int)), i64 ((t.at_ : Nat)), ptr a.yc, pv, av, i64 (t.live), i64 (t.err), i64 (t.on), .bool false, i64 (t.ond)], rowO 3 1 (.slice (some ⟨a.pb, 0, none⟩) p.P.length a.pc) p.P.length (ints p.P), rowO 3 1 (.slice (some ⟨a.lb, 0, none⟩) p.LL.length a.lc) p.LL.length (ints p.LL), rowO 3 1 (.slice (some ⟨a.hb, 0, none⟩) p.path.length a.hc) p.path.length (ints (nats p.path)), r11O a.C p.K p.th a.yc t.cl] w3 from by repeat (with_reducible first | exact HS.out | apply Sx.alloc | apply Sx.drewN | apply Sx.drew)) 1 (by simp)))
  have qy := hb.k22
  clear hb
  go_upto_region 26 with fail
  obtain ⟨w4, hwn⟩ : ∃ v, v = (((w3).setCell ⟨y, 17, none⟩ (i64 (pNext6 t.cl.set 2))).setCell ⟨y, 12, none⟩ (i64 5)).setCell ⟨y, 13, none⟩ (i64 0) := ⟨_, rfl⟩
  rw [← hwn]
  have hs := hid (show Sx R w0 [Ass.blk y 71 [i64 p.tt, i64 (p.s : Int), i64 p.g, i64 p.lm, i64 p.r, i64 (p.K : Int), .slice (some ⟨a.pb, 0, none⟩) p.P.length a.pc, .slice (some ⟨a.lb, 0, none⟩) p.LL.length a.lc, i64 (p.nd : Int), i64 p.n, i64 (p.th : Int), .slice (some ⟨a.hb, 0, none⟩) p.path.length a.hc, i64 (((5 : Nat) : Int)), i64 (0), ptr a.yc, pv, av, i64 (pNext6 t.cl.set 2), i64 (t.err), i64 (t.on), .bool false, i64 (t.ond)], refO B m (t.W.set (t.tk p) (pNext6 t.cl.set 2)) (t.L ++ [⟨4, (t.tk p : Nat), pNext6 t.cl.set 2, 0, false⟩]), rowO 3 1 (.slice (some ⟨a.pb, 0, none⟩) p.P.length a.pc) p.P.length (ints p.P), rowO 3 1 (.slice (some ⟨a.lb, 0, none⟩) p.LL.length a.lc) p.LL.length (ints p.LL), rowO 3 1 (.slice (some ⟨a.hb, 0, none⟩) p.path.length a.hc) p.path.length (ints (nats p.path)), r11O a.C p.K p.th a.yc t.cl] w4 from by rw [hwn]; exact (Sx.tr (Sx.tr (Sx.tr (show Sx R w0 [Ass.blk y 71 [i64 p.tt, i64 (p.s : Int), i64 p.g, i64 p.lm, i64 p.r, i64 (p.K : Int), .slice (some ⟨a.pb, 0, none⟩) p.P.length a.pc, .slice (some ⟨a.lb, 0, none⟩) p.LL.length a.lc, i64 (p.nd : Int), i64 p.n, i64 (p.th : Int), .slice (some ⟨a.hb, 0, none⟩) p.path.length a.hc, i64 (((4 : Nat) : Int)), i64 ((t.at_ : Nat)), ptr a.yc, pv, av, i64 (t.live), i64 (t.err), i64 (t.on), .bool false, i64 (t.ond)], refO B m (t.W.set (t.tk p) (pNext6 t.cl.set 2)) (t.L ++ [⟨4, (t.tk p : Nat), pNext6 t.cl.set 2, 0, false⟩]), rowO 3 1 (.slice (some ⟨a.pb, 0, none⟩) p.P.length a.pc) p.P.length (ints p.P), rowO 3 1 (.slice (some ⟨a.lb, 0, none⟩) p.LL.length a.lc) p.LL.length (ints p.LL), rowO 3 1 (.slice (some ⟨a.hb, 0, none⟩) p.path.length a.hc) p.path.length (ints (nats p.path)), r11O a.C p.K p.th a.yc t.cl] _ from (Sx.pick (show Sx R w0 [refO B m (t.W.set (t.tk p) (pNext6 t.cl.set 2)) (t.L ++ [⟨4, (t.tk p : Nat), pNext6 t.cl.set 2, 0, false⟩]), Ass.blk y 71 [i64 p.tt, i64 (p.s : Int), i64 p.g, i64 p.lm, i64 p.r, i64 (p.K : Int), .slice (some ⟨a.pb, 0, none⟩) p.P.length a.pc, .slice (some ⟨a.lb, 0, none⟩) p.LL.length a.lc, i64 (p.nd : Int), i64 p.n, i64 (p.th : Int), .slice (some ⟨a.hb, 0, none⟩) p.path.length a.hc, i64 (((4 : Nat) : Int)), i64 ((t.at_ : Nat)), ptr a.yc, pv, av, i64 (t.live), i64 (t.err), i64 (t.on), .bool false, i64 (t.ond)], rowO 3 1 (.slice (some ⟨a.pb, 0, none⟩) p.P.length a.pc) p.P.length (ints p.P), rowO 3 1 (.slice (some ⟨a.lb, 0, none⟩) p.LL.length a.lc) p.LL.length (ints p.LL), rowO 3 1 (.slice (some ⟨a.hb, 0, none⟩) p.path.length a.hc) p.path.length (ints (nats p.path)), r11O a.C p.K p.th a.yc t.cl] _ from by repeat (with_reducible first | exact HS.out | apply Sx.alloc | apply Sx.drewN | apply Sx.drew)) 1 (by simp))) (fun Rq hr => blk_store hr 17 (i64 (pNext6 t.cl.set 2)))) (fun Rq hr => blk_store hr 12 (i64 5))) (fun Rq hr => blk_store hr 13 (i64 0))))
  clear HS hwn
  have HS := hs
  clear hs
  clear qy
  have hs := hid (show Sx R w0 [Ass.blk y 71 [i64 p.tt, i64 (p.s : Int), i64 p.g, i64 p.lm, i64 p.r, i64 (p.K : Int), .slice (some ⟨a.pb, 0, none⟩) p.P.length a.pc, .slice (some ⟨a.lb, 0, none⟩) p.LL.length a.lc, i64 (p.nd : Int), i64 p.n, i64 (p.th : Int), .slice (some ⟨a.hb, 0, none⟩) p.path.length a.hc, i64 (((5 : Nat) : Int)), i64 (0), ptr a.yc, pv, av, i64 (pNext6 t.cl.set 2), i64 (t.err), i64 (t.on), .bool false, i64 (t.ond)], rowO 3 1 (.slice (some ⟨a.pb, 0, none⟩) p.P.length a.pc) p.P.length (ints p.P), rowO 3 1 (.slice (some ⟨a.lb, 0, none⟩) p.LL.length a.lc) p.LL.length (ints p.LL), rowO 3 1 (.slice (some ⟨a.hb, 0, none⟩) p.path.length a.hc) p.path.length (ints (nats p.path)), r11O a.C p.K p.th a.yc t.cl, refO B m (t.W.set (t.tk p) (pNext6 t.cl.set 2)) (t.L ++ [⟨4, (t.tk p : Nat), pNext6 t.cl.set 2, 0, false⟩])] w4 from (Sx.pick (Sx.pick (Sx.pick (Sx.pick (Sx.pick (Sx.pick (show Sx R w0 [Ass.blk y 71 [i64 p.tt, i64 (p.s : Int), i64 p.g, i64 p.lm, i64 p.r, i64 (p.K : Int), .slice (some ⟨a.pb, 0, none⟩) p.P.length a.pc, .slice (some ⟨a.lb, 0, none⟩) p.LL.length a.lc, i64 (p.nd : Int), i64 p.n, i64 (p.th : Int), .slice (some ⟨a.hb, 0, none⟩) p.path.length a.hc, i64 (((5 : Nat) : Int)), i64 (0), ptr a.yc, pv, av, i64 (pNext6 t.cl.set 2), i64 (t.err), i64 (t.on), .bool false, i64 (t.ond)], refO B m (t.W.set (t.tk p) (pNext6 t.cl.set 2)) (t.L ++ [⟨4, (t.tk p : Nat), pNext6 t.cl.set 2, 0, false⟩]), rowO 3 1 (.slice (some ⟨a.pb, 0, none⟩) p.P.length a.pc) p.P.length (ints p.P), rowO 3 1 (.slice (some ⟨a.lb, 0, none⟩) p.LL.length a.lc) p.LL.length (ints p.LL), rowO 3 1 (.slice (some ⟨a.hb, 0, none⟩) p.path.length a.hc) p.path.length (ints (nats p.path)), r11O a.C p.K p.th a.yc t.cl] w4 from by repeat (with_reducible first | exact HS.out | apply Sx.alloc | apply Sx.drewN | apply Sx.drew)) 1 (by simp)) 5 (by simp)) 5 (by simp)) 5 (by simp)) 5 (by simp)) 5 (by simp)))
  clear HS
  have HS := hs
  clear hs
  have hp0 : 0 < p.path.length := by omega
  have hvl : p.v 0 < p.P.length := hp.v1 hp0
  have ht1 := hp.t1
  have HP := hid hp
  clear hp
  apply wp_region_free (WI := NS 19 22 R w0 [Ass.blk y 71 [i64 p.tt, i64 (p.s : Int), i64 p.g, i64 p.lm, i64 p.r, i64 (p.K : Int), .slice (some ⟨a.pb, 0, none⟩) p.P.length a.pc, .slice (some ⟨a.lb, 0, none⟩) p.LL.length a.lc, i64 (p.nd : Int), i64 p.n, i64 (p.th : Int), .slice (some ⟨a.hb, 0, none⟩) p.path.length a.hc, i64 (((5 : Nat) : Int)), i64 (0), ptr a.yc, pv, av, i64 (pNext6 t.cl.set 2), i64 (t.err), i64 (t.on), .bool false, i64 (t.ond)], rowO 3 1 (.slice (some ⟨a.pb, 0, none⟩) p.P.length a.pc) p.P.length (ints p.P), rowO 3 1 (.slice (some ⟨a.lb, 0, none⟩) p.LL.length a.lc) p.LL.length (ints p.LL), rowO 3 1 (.slice (some ⟨a.hb, 0, none⟩) p.path.length a.hc) p.path.length (ints (nats p.path)), r11O a.C p.K p.th a.yc t.cl, refO B m (t.W.set (t.tk p) (pNext6 t.cl.set 2)) (t.L ++ [⟨4, (t.tk p : Nat), pNext6 t.cl.set 2, 0, false⟩])] (fun v => Ass.ex fun y' : Nat => (r6O (p.ct (p.v 0)) p.s p.g p.n y' (ad0 p)).with_ (v = ptr y')) (fun v => [Ass.blk y 71 (([i64 p.tt, i64 (p.s : Int), i64 p.g, i64 p.lm, i64 p.r, i64 (p.K : Int), .slice (some ⟨a.pb, 0, none⟩) p.P.length a.pc, .slice (some ⟨a.lb, 0, none⟩) p.LL.length a.lc, i64 (p.nd : Int), i64 p.n, i64 (p.th : Int), .slice (some ⟨a.hb, 0, none⟩) p.path.length a.hc, i64 (((5 : Nat) : Int)), i64 (0), ptr a.yc, pv, av, i64 (pNext6 t.cl.set 2), i64 (t.err), i64 (t.on), .bool false, i64 (t.ond)]).set 16 v), rowO 3 1 (.slice (some ⟨a.pb, 0, none⟩) p.P.length a.pc) p.P.length (ints p.P), rowO 3 1 (.slice (some ⟨a.lb, 0, none⟩) p.LL.length a.lc) p.LL.length (ints p.LL), rowO 3 1 (.slice (some ⟨a.hb, 0, none⟩) p.path.length a.hc) p.path.length (ints (nats p.path)), r11O a.C p.K p.th a.yc t.cl, refO B m (t.W.set (t.tk p) (pNext6 t.cl.set 2)) (t.L ++ [⟨4, (t.tk p : Nat), pNext6 t.cl.set 2, 0, false⟩])])) (by kernel_rfl) (by kernel_rfl)
  case hob =>
   iterate 4
    apply ObligF.fixed
    case h =>
     intro S gh w1 hwi hSi hd hcl
     apply StepOk.intro
     intro K hK
     go_simp
     apply hK
     · rfl
     · conv => (lhs; whnf)
     · exact hwi.fixed (by decide)
    simp only [put_lit, put_none]
    try dsimp only [List.set_cons_succ, List.set_cons_zero]
   apply ObligF.fixed
   case h =>
    intro S gh w1 hwi hSi hd hcl
    apply StepOk.intro
    intro K hK
    have hlast : S 22 = false := by
     cases h : S 22 with
     | false => rfl
     | true => exact absurd ((hcl 22 _ rfl h) ⟨4, .phase⟩ (by simp) rfl) (by rw [hSi]; decide)
    obtain ⟨_, _, _, ⟨hby, _⟩, ⟨_, _, hrp, ⟨_, _, hrl, ⟨_, _, hrh, _⟩, _⟩, _⟩, _⟩ := hwi.at_ hlast
    have qyq := hby.k22
    go_simp
    apply hK
    · rfl
    · conv => (lhs; whnf)
    · exact hwi.fixed (by decide)
   simp only [put_lit, put_none]
   try dsimp only [List.set_cons_succ, List.set_cons_zero]
   iterate 3
    apply ObligF.fixed
    case h =>
     intro S gh w1 hwi hSi hd hcl
     apply StepOk.intro
     intro K hK
     go_simp
     apply hK
     · rfl
     · conv => (lhs; whnf)
     · exact hwi.fixed (by decide)
    simp only [put_lit, put_none]
    try dsimp only [List.set_cons_succ, List.set_cons_zero]
   apply ObligF.fixed
   case h =>
    intro S gh w1 hwi hSi hd hcl
    apply StepOk.intro
    intro K hK
    have hlast : S 22 = false := by
     cases h : S 22 with
     | false => rfl
     | true => exact absurd ((hcl 22 _ rfl h) ⟨8, .phase⟩ (by simp) rfl) (by rw [hSi]; decide)
    obtain ⟨_, _, _, ⟨hby, _⟩, ⟨_, _, hrp, ⟨_, _, hrl, ⟨_, _, hrh, _⟩, _⟩, _⟩, _⟩ := hwi.at_ hlast
    have qyq := hby.k22
    go_simp
    apply hK
    · rfl
    · conv => (lhs; whnf)
    · exact hwi.fixed (by decide)
   simp only [put_lit, put_none]
   try dsimp only [List.set_cons_succ, List.set_cons_zero]
   apply ObligF.fixed
   case h =>
    intro S gh w1 hwi hSi hd hcl
    apply StepOk.intro
    intro K hK
    go_simp
    apply hK
    · rfl
    · conv => (lhs; whnf)
    · exact hwi.fixed (by decide)
   simp only [put_lit, put_none]
   try dsimp only [List.set_cons_succ, List.set_cons_zero]
   apply ObligF.fixed
   case h =>
    intro S gh w1 hwi hSi hd hcl
    apply StepOk.intro
    intro K hK
    have hlast : S 22 = false := by
     cases h : S 22 with
     | false => rfl
     | true => exact absurd ((hcl 22 _ rfl h) ⟨10, .phase⟩ (by simp) rfl) (by rw [hSi]; decide)
    obtain ⟨_, _, _, ⟨hby, _⟩, ⟨_, _, hrp, ⟨_, _, hrl, ⟨_, _, hrh, _⟩, _⟩, _⟩, _⟩ := hwi.at_ hlast
    have hcl := path_cell hrh (i := 0) (by omega)
    have hcz := path_lt hrh (by omega)
    go_simp
    apply hK
    · rfl
    · conv => (lhs; whnf)
    · exact hwi.fixed (by decide)
   simp only [put_lit, put_none]
   try dsimp only [List.set_cons_succ, List.set_cons_zero]
   iterate 3
    apply ObligF.fixed
    case h =>
     intro S gh w1 hwi hSi hd hcl
     apply StepOk.intro
     intro K hK
     go_simp
     apply hK
     · rfl
     · conv => (lhs; whnf)
     · exact hwi.fixed (by decide)
    simp only [put_lit, put_none]
    try dsimp only [List.set_cons_succ, List.set_cons_zero]
   apply ObligF.fixed
   case h =>
    intro S gh w1 hwi hSi hd hcl
    apply StepOk.intro
    intro K hK
    have hlast : S 22 = false := by
     cases h : S 22 with
     | false => rfl
     | true => exact absurd ((hcl 22 _ rfl h) ⟨14, .phase⟩ (by simp) rfl) (by rw [hSi]; decide)
    obtain ⟨_, _, _, ⟨hby, _⟩, ⟨_, _, hrp, ⟨_, _, hrl, ⟨_, _, hrh, _⟩, _⟩, _⟩, _⟩ := hwi.at_ hlast
    have qyq := hby.k22
    go_simp
    apply hK
    · rfl
    · conv => (lhs; whnf)
    · exact hwi.fixed (by decide)
   simp only [put_lit, put_none]
   try dsimp only [List.set_cons_succ, List.set_cons_zero]
   iterate 3
    apply ObligF.fixed
    case h =>
     intro S gh w1 hwi hSi hd hcl
     apply StepOk.intro
     intro K hK
     go_simp
     apply hK
     · rfl
     · conv => (lhs; whnf)
     · exact hwi.fixed (by decide)
    simp only [put_lit, put_none]
    try dsimp only [List.set_cons_succ, List.set_cons_zero]
   apply ObligF.fixed
   case h =>
    intro S gh w1 hwi hSi hd hcl
    apply StepOk.intro
    intro K hK
    have hlast : S 22 = false := by
     cases h : S 22 with
     | false => rfl
     | true => exact absurd ((hcl 22 _ rfl h) ⟨18, .phase⟩ (by simp) rfl) (by rw [hSi]; decide)
    obtain ⟨_, _, _, ⟨hby, _⟩, ⟨_, _, hrp, ⟨_, _, hrl, ⟨_, _, hrh, _⟩, _⟩, _⟩, _⟩ := hwi.at_ hlast
    have qyq := hby.k22
    go_simp
    apply hK
    · rfl
    · conv => (lhs; whnf)
    · exact hwi.fixed (by decide)
   simp only [put_lit, put_none]
   try dsimp only [List.set_cons_succ, List.set_cons_zero]
   apply ObligF.free
   case h =>
    intro S gh w1 hwi hSi hd hcl
    apply StepG.intro
    intro K hK
    have hlast : S 22 = false := by
     cases h : S 22 with
     | false => rfl
     | true => exact absurd ((hcl 22 _ rfl h) ⟨19, .data⟩ (by simp) rfl) (by rw [hSi]; decide)
    obtain ⟨_, _, _, ⟨hby, _⟩, ⟨_, _, hrp, ⟨_, _, hrl, ⟨_, _, hrh, _⟩, _⟩, _⟩, _⟩ := hwi.at_ hlast
    have qyq := hby.k22
    go_simp
    refine Calls.mono (r12_Put p.tt p.g p.lm p.r p.K p.s (some ⟨a.pb, 0, none⟩) p.P.length a.pc (some ⟨a.lb, 0, none⟩) p.LL.length a.lc (p.v 0) p.n p.th _ hs8 (by omega) ht1 [] []) ?_
    rintro e w2 ⟨yn, rfl, hn⟩
    apply hK
    · rfl
    · exact hwi.made (by decide) hSi hlast (ptr yn) (nw_with hn)
   simp only [put_lit, put_none]
   try dsimp only [List.set_cons_succ, List.set_cons_zero]
   iterate 2
    apply ObligF.fixed
    case h =>
     intro S gh w1 hwi hSi hd hcl
     apply StepOk.intro
     intro K hK
     go_simp
     apply hK
     · rfl
     · conv => (lhs; whnf)
     · exact hwi.fixed (by decide)
    simp only [put_lit, put_none]
    try dsimp only [List.set_cons_succ, List.set_cons_zero]
   apply ObligF.fixed
   case h =>
    intro S gh w1 hwi hSi hd hcl
    apply StepOk.intro
    intro K hK
    have hmade := hd ⟨19, .data⟩ (by simp) rfl
    have hlast := hSi
    obtain ⟨_, _, _, ⟨hby, _⟩, ⟨_, _, hrp, ⟨_, _, hrl, ⟨_, _, hrh, _⟩, _⟩, _⟩, _⟩ := hwi.at_ hlast
    have qyq := hby.k22
    obtain ⟨_, ⟨yq, _, e1⟩, _⟩ := Sx.get ((hwi.1 hSi).2 hmade)
    rw [e1]
    go_simp
    apply hK
    · rfl
    · conv => (lhs; whnf)
    · exact hwi.done hmade hSi (fun hs => by rw [e1] at hs ⊢; exact Sx.pick (Sx.tr (Sx.pick hs 1 (by simp)) (fun R hr => blk_store hr 16 _)) 1 (by simp))
   simp only [put_lit, put_none]
   try dsimp only [List.set_cons_succ, List.set_cons_zero]
   exact ObligF.nil
  case h0 =>
   exact NS.start HS.out (by decide)
  case hend =>
   intro S gh wx hwi hall
   obtain ⟨v, hv⟩ := hwi.end_ (hall 22 (by decide))
   obtain ⟨w5, hwn⟩ : ∃ v, v = wx := ⟨_, rfl⟩
   rw [← hwn] at hv ⊢
   have hs := hid (show Sx R w0 [(Ass.ex fun y' : Nat => (r6O (p.ct (p.v (0))) p.s p.g p.n y' (ad0 p)).with_ (v = ptr y')), Ass.blk y 71 [i64 p.tt, i64 (p.s : Int), i64 p.g, i64 p.lm, i64 p.r, i64 (p.K : Int), .slice (some ⟨a.pb, 0, none⟩) p.P.length a.pc, .slice (some ⟨a.lb, 0, none⟩) p.LL.length a.lc, i64 (p.nd : Int), i64 p.n, i64 (p.th : Int), .slice (some ⟨a.hb, 0, none⟩) p.path.length a.hc, i64 (((5 : Nat) : Int)), i64 (0), ptr a.yc, pv, v, i64 (pNext6 t.cl.set 2), i64 (t.err), i64 (t.on), .bool false, i64 (t.ond)], rowO 3 1 (.slice (some ⟨a.pb, 0, none⟩) p.P.length a.pc) p.P.length (ints p.P), rowO 3 1 (.slice (some ⟨a.lb, 0, none⟩) p.LL.length a.lc) p.LL.length (ints p.LL), rowO 3 1 (.slice (some ⟨a.hb, 0, none⟩) p.path.length a.hc) p.path.length (ints (nats p.path)), r11O a.C p.K p.th a.yc t.cl, refO B m (t.W.set (t.tk p) (pNext6 t.cl.set 2)) (t.L ++ [⟨4, (t.tk p : Nat), pNext6 t.cl.set 2, 0, false⟩])] w5 from hv)
   clear hwi hall hv hwn HS
   have HS := hs
   clear hs
   obtain ⟨_, ⟨hb, _⟩, _⟩ := Sx.get (show Sx R w0 [Ass.blk y 71 [i64 p.tt, i64 (p.s : Int), i64 p.g, i64 p.lm, i64 p.r, i64 (p.K : Int), .slice (some ⟨a.pb, 0, none⟩) p.P.length a.pc, .slice (some ⟨a.lb, 0, none⟩) p.LL.length a.lc, i64 (p.nd : Int), i64 p.n, i64 (p.th : Int), .slice (some ⟨a.hb, 0, none⟩) p.path.length a.hc, i64 (((5 : Nat) : Int)), i64 (0), ptr a.yc, pv, v, i64 (pNext6 t.cl.set 2), i64 (t.err), i64 (t.on), .bool false, i64 (t.ond)], (Ass.ex fun y' : Nat => (r6O (p.ct (p.v (0))) p.s p.g p.n y' (ad0 p)).with_ (v = ptr y')), rowO 3 1 (.slice (some ⟨a.pb, 0, none⟩) p.P.length a.pc) p.P.length (ints p.P), rowO 3 1 (.slice (some ⟨a.lb, 0, none⟩) p.LL.length a.lc) p.LL.length (ints p.LL), rowO 3 1 (.slice (some ⟨a.hb, 0, none⟩) p.path.length a.hc) p.path.length (ints (nats p.path)), r11O a.C p.K p.th a.yc t.cl, refO B m (t.W.set (t.tk p) (pNext6 t.cl.set 2)) (t.L ++ [⟨4, (t.tk p : Nat), pNext6 t.cl.set 2, 0, false⟩])] w5 from (Sx.pick (show Sx R w0 [(Ass.ex fun y' : Nat => (r6O (p.ct (p.v (0))) p.s p.g p.n y' (ad0 p)).with_ (v = ptr y')), Ass.blk y 71 [i64 p.tt, i64 (p.s : Int), i64 p.g, i64 p.lm, i64 p.r, i64 (p.K : Int), .slice (some ⟨a.pb, 0, none⟩) p.P.length a.pc, .slice (some ⟨a.lb, 0, none⟩) p.LL.length a.lc, i64 (p.nd : Int), i64 p.n, i64 (p.th : Int), .slice (some ⟨a.hb, 0, none⟩) p.path.length a.hc, i64 (((5 : Nat) : Int)), i64 (0), ptr a.yc, pv, v, i64 (pNext6 t.cl.set 2), i64 (t.err), i64 (t.on), .bool false, i64 (t.ond)], rowO 3 1 (.slice (some ⟨a.pb, 0, none⟩) p.P.length a.pc) p.P.length (ints p.P), rowO 3 1 (.slice (some ⟨a.lb, 0, none⟩) p.LL.length a.lc) p.LL.length (ints p.LL), rowO 3 1 (.slice (some ⟨a.hb, 0, none⟩) p.path.length a.hc) p.path.length (ints (nats p.path)), r11O a.C p.K p.th a.yc t.cl, refO B m (t.W.set (t.tk p) (pNext6 t.cl.set 2)) (t.L ++ [⟨4, (t.tk p : Nat), pNext6 t.cl.set 2, 0, false⟩])] w5 from by repeat (with_reducible first | exact HS.out | apply Sx.alloc | apply Sx.drewN | apply Sx.drew)) 1 (by simp)))
   have qy := hb.k22
   clear hb
   go_wp2_with fail
   go_ret
   exact ⟨v, rfl, (show Sx R w0 [refO B m (t.W.set (t.tk p) (pNext6 t.cl.set 2)) (t.L ++ [⟨4, (t.tk p : Nat), pNext6 t.cl.set 2, 0, false⟩]), (Ass.ex fun y' : Nat => (r6O (p.ct (p.v (0))) p.s p.g p.n y' (ad0 p)).with_ (v = ptr y')), Ass.blk y 71 [i64 p.tt, i64 (p.s : Int), i64 p.g, i64 p.lm, i64 p.r, i64 (p.K : Int), .slice (some ⟨a.pb, 0, none⟩) p.P.length a.pc, .slice (some ⟨a.lb, 0, none⟩) p.LL.length a.lc, i64 (p.nd : Int), i64 p.n, i64 (p.th : Int), .slice (some ⟨a.hb, 0, none⟩) p.path.length a.hc, i64 (((5 : Nat) : Int)), i64 (0), ptr a.yc, pv, v, i64 (pNext6 t.cl.set 2), i64 (t.err), i64 (t.on), .bool false, i64 (t.ond)], rowO 3 1 (.slice (some ⟨a.pb, 0, none⟩) p.P.length a.pc) p.P.length (ints p.P), rowO 3 1 (.slice (some ⟨a.lb, 0, none⟩) p.LL.length a.lc) p.LL.length (ints p.LL), rowO 3 1 (.slice (some ⟨a.hb, 0, none⟩) p.path.length a.hc) p.path.length (ints (nats p.path)), r11O a.C p.K p.th a.yc t.cl] _ from (Sx.pick (Sx.pick (Sx.pick (Sx.pick (Sx.pick (Sx.pick (Sx.pick (show Sx R w0 [(Ass.ex fun y' : Nat => (r6O (p.ct (p.v (0))) p.s p.g p.n y' (ad0 p)).with_ (v = ptr y')), Ass.blk y 71 [i64 p.tt, i64 (p.s : Int), i64 p.g, i64 p.lm, i64 p.r, i64 (p.K : Int), .slice (some ⟨a.pb, 0, none⟩) p.P.length a.pc, .slice (some ⟨a.lb, 0, none⟩) p.LL.length a.lc, i64 (p.nd : Int), i64 p.n, i64 (p.th : Int), .slice (some ⟨a.hb, 0, none⟩) p.path.length a.hc, i64 (((5 : Nat) : Int)), i64 (0), ptr a.yc, pv, v, i64 (pNext6 t.cl.set 2), i64 (t.err), i64 (t.on), .bool false, i64 (t.ond)], rowO 3 1 (.slice (some ⟨a.pb, 0, none⟩) p.P.length a.pc) p.P.length (ints p.P), rowO 3 1 (.slice (some ⟨a.lb, 0, none⟩) p.LL.length a.lc) p.LL.length (ints p.LL), rowO 3 1 (.slice (some ⟨a.hb, 0, none⟩) p.path.length a.hc) p.path.length (ints (nats p.path)), r11O a.C p.K p.th a.yc t.cl, refO B m (t.W.set (t.tk p) (pNext6 t.cl.set 2)) (t.L ++ [⟨4, (t.tk p : Nat), pNext6 t.cl.set 2, 0, false⟩])] _ from by repeat (with_reducible first | exact HS.out | apply Sx.alloc | apply Sx.drewN | apply Sx.drew)) 5 (by simp)) 5 (by simp)) 5 (by simp)) 5 (by simp)) 5 (by simp)) 5 (by simp)) 6 (by simp)))⟩
set_option maxHeartbeats 4000000 in
theorem r12_step5go {ya : Nat} (hp : P12OK p) (ha : t.at_ < p.path.length) (hn : t.cl.n < p.K) (hf : t.cl.fin = 1) (hai : AInv (p.ct (p.v t.at_)) p.s p.g p.n t.a) (hsp : t.ad.sp ≤ 2000) (hL : t.L.length ≤ 1000000000) (h9 : ¬ (aNext (p.ct (p.v t.at_)) p.s p.g p.n t.a).st = 9) (h : (stars (refO B m t.W t.L :: [Ass.blk y 71 [i64 p.tt, i64 (p.s : Int), i64 p.g, i64 p.lm, i64 p.r, i64 (p.K : Int), .slice (some ⟨a.pb, 0, none⟩) p.P.length a.pc, .slice (some ⟨a.lb, 0, none⟩) p.LL.length a.lc, i64 (p.nd : Int), i64 p.n, i64 (p.th : Int), .slice (some ⟨a.hb, 0, none⟩) p.path.length a.hc, i64 (((5 : Nat) : Int)), i64 ((t.at_ : Nat)), ptr a.yc, pv, ptr ya, i64 (t.live), i64 (t.err), i64 (t.on), .bool false, i64 (t.ond)], rowO 3 1 (.slice (some ⟨a.pb, 0, none⟩) p.P.length a.pc) p.P.length (ints p.P), rowO 3 1 (.slice (some ⟨a.lb, 0, none⟩) p.LL.length a.lc) p.LL.length (ints p.LL), rowO 3 1 (.slice (some ⟨a.hb, 0, none⟩) p.path.length a.hc) p.path.length (ints (nats p.path)), r11O a.C p.K p.th a.yc t.cl, r6O (p.ct (p.v t.at_)) p.s p.g p.n ya t.ad])).At R w) :
 Calls Try.prog 37 #[ptr y, ptr m] w fun e w' => e = .returned (.bool false) ∧ Tr (stars ((refO B m (aNext (p.ct (p.v t.at_)) p.s p.g p.n t.a).W (aNext (p.ct (p.v t.at_)) p.s p.g p.n t.a).L) :: r6O (p.ct (p.v t.at_)) p.s p.g p.n ya (aNext (p.ct (p.v t.at_)) p.s p.g p.n t.a) :: [Ass.blk y 71 [i64 p.tt, i64 (p.s : Int), i64 p.g, i64 p.lm, i64 p.r, i64 (p.K : Int), .slice (some ⟨a.pb, 0, none⟩) p.P.length a.pc, .slice (some ⟨a.lb, 0, none⟩) p.LL.length a.lc, i64 (p.nd : Int), i64 p.n, i64 (p.th : Int), .slice (some ⟨a.hb, 0, none⟩) p.path.length a.hc, i64 (((5 : Nat) : Int)), i64 ((t.at_ : Nat)), ptr a.yc, pv, ptr ya, i64 (t.live), i64 (t.err), i64 (t.on), .bool false, i64 (t.ond)], rowO 3 1 (.slice (some ⟨a.pb, 0, none⟩) p.P.length a.pc) p.P.length (ints p.P), rowO 3 1 (.slice (some ⟨a.lb, 0, none⟩) p.LL.length a.lc) p.LL.length (ints p.LL), rowO 3 1 (.slice (some ⟨a.hb, 0, none⟩) p.path.length a.hc) p.path.length (ints (nats p.path)), r11O a.C p.K p.th a.yc t.cl])) R w w' := by
 obtain ⟨w0, hw0⟩ : ∃ v, v = w := ⟨_, rfl⟩
 rw [← hw0] at h ⊢
 have HS := hid (show Sx R w0 [refO B m t.W t.L, Ass.blk y 71 [i64 p.tt, i64 (p.s : Int), i64 p.g, i64 p.lm, i64 p.r, i64 (p.K : Int), .slice (some ⟨a.pb, 0, none⟩) p.P.length a.pc, .slice (some ⟨a.lb, 0, none⟩) p.LL.length a.lc, i64 (p.nd : Int), i64 p.n, i64 (p.th : Int), .slice (some ⟨a.hb, 0, none⟩) p.path.length a.hc, i64 (((5 : Nat) : Int)), i64 ((t.at_ : Nat)), ptr a.yc, pv, ptr ya, i64 (t.live), i64 (t.err), i64 (t.on), .bool false, i64 (t.ond)], rowO 3 1 (.slice (some ⟨a.pb, 0, none⟩) p.P.length a.pc) p.P.length (ints p.P), rowO 3 1 (.slice (some ⟨a.lb, 0, none⟩) p.LL.length a.lc) p.LL.length (ints p.LL), rowO 3 1 (.slice (some ⟨a.hb, 0, none⟩) p.path.length a.hc) p.path.length (ints (nats p.path)), r11O a.C p.K p.th a.yc t.cl, r6O (p.ct (p.v t.at_)) p.s p.g p.n ya t.ad] w0 from Sx.start h)
 clear h hw0
 obtain ⟨x, hx⟩ : ∃ x, x = aNext (p.ct (p.v t.at_)) p.s p.g p.n t.a := ⟨_, rfl⟩
 rw [← hx] at h9 ⊢
 have HXN := hid hx
 clear hx
 have hctb := hp.ct_lt (hp.v1 ha)
 have hq264 := hp.q264
 have hs8 := hp.s8
 have hp1 := hp.p1
 have hk1 := hp.k1
 obtain ⟨ae, hae⟩ : ∃ ae : Int, ae = (if t.cl.fin = 2 then 3 else 0) := ⟨_, rfl⟩
 have HAE := hid hae
 clear hae
 have htk0 := fun w' => ref_Ticket p.tt p.s p.g p.lm p.r p.K (some ⟨a.pb, 0, none⟩) p.P.length a.pc (some ⟨a.lb, 0, none⟩) p.LL.length a.lc (t.cl.n : Int) w' (by omega) (by omega) (by omega) (by omega) (by omega)
 rw [show (p.P.length : Int) * (6 + 2 * (p.s : Int)) + 2 * (t.cl.n : Int) = ((t.tk p : Nat) : Int) from by unfold S12.tk P12.q; push_cast; rfl] at htk0
 have HTK := hid htk0
 clear htk0
 go_enter Try.func37, Try.ntmps37
 go_upto_region 1 with fail
 apply wp_region_text (WI := fun S wx => Keep0 w0 wx) (by kernel_rfl) (by kernel_rfl)
 case hob =>
  iterate 8
   apply Oblig.cons
   case h =>
    intro S w1 hwi hSi hd hcl
    apply StepOk.intro
    intro K hK
    obtain ⟨_, ⟨hb, _⟩, _⟩ := Sx.get (Sx.pick (Sx.keep HS.out hwi) 1 (by simp))
    have qy := hb.k22
    clear hb
    obtain ⟨_, ⟨hcl, _⟩, _⟩ := Sx.get (Sx.pick (Sx.keep HS.out hwi) 5 (by simp))
    go_simp
    apply hK
    · rfl
    · conv => (lhs; whnf)
    · exact hwi
   simp only [put_lit, put_none]
   try dsimp only [List.set_cons_succ, List.set_cons_zero]
  apply Oblig.cons
  case h =>
   intro S w1 hwi hSi hd hcl
   apply StepOk.intro
   intro K hK
   obtain ⟨_, ⟨hb, _⟩, _⟩ := Sx.get (Sx.pick (Sx.keep HS.out hwi) 1 (by simp))
   have qy := hb.k22
   clear hb
   obtain ⟨_, ⟨hcl, _⟩, _⟩ := Sx.get (Sx.pick (Sx.keep HS.out hwi) 5 (by simp))
   go_simp
   refine (show Calls Try.prog 52 _ w1 (Ret (.agg #[i64 ae, i64 (t.cl.n : Int), .bool false, i64 0]) w1) from by have h := r11_Ans t.cl hcl; unfold clAns at h; rw [← HAE.out] at h; exact h).mono ?_
   rintro e w2 ⟨rfl, hk⟩
   apply hK
   · rfl
   · conv => (lhs; whnf)
   · exact Keep0.step hwi hk
  simp only [put_lit, put_none]
  try dsimp only [List.set_cons_succ, List.set_cons_zero]
  apply Oblig.cons
  case h =>
   intro S w1 hwi hSi hd hcl
   apply StepOk.intro
   intro K hK
   obtain ⟨_, ⟨hb, _⟩, _⟩ := Sx.get (Sx.pick (Sx.keep HS.out hwi) 1 (by simp))
   have qy := hb.k22
   clear hb
   obtain ⟨_, ⟨hcl, _⟩, _⟩ := Sx.get (Sx.pick (Sx.keep HS.out hwi) 5 (by simp))
   go_simp
   apply hK
   · rfl
   · conv => (lhs; whnf)
   · exact hwi
  simp only [put_lit, put_none]
  try dsimp only [List.set_cons_succ, List.set_cons_zero]
  apply Oblig.cons
  case h =>
   intro S w1 hwi hSi hd hcl
   apply StepOk.intro
   intro K hK
   go_simp
   refine (HTK.out _).mono ?_
   rintro e w2 ⟨rfl, hk⟩
   apply hK
   · rfl
   · conv => (lhs; whnf)
   · exact Keep0.step hwi hk
  simp only [put_lit, put_none]
  try dsimp only [List.set_cons_succ, List.set_cons_zero]
  apply Oblig.cons
  case h =>
   intro S w1 hwi hSi hd hcl
   apply StepOk.intro
   intro K hK
   obtain ⟨_, ⟨hb, _⟩, _⟩ := Sx.get (Sx.pick (Sx.keep HS.out hwi) 1 (by simp))
   have qy := hb.k22
   clear hb
   obtain ⟨_, ⟨hcl, _⟩, _⟩ := Sx.get (Sx.pick (Sx.keep HS.out hwi) 5 (by simp))
   go_simp
   apply hK
   · rfl
   · conv => (lhs; whnf)
   · exact hwi
  simp only [put_lit, put_none]
  try dsimp only [List.set_cons_succ, List.set_cons_zero]
  exact Oblig.nil
 case h0 =>
  exact (Keep.refl _ _).drew
 case hend =>
  intro S wx hwi hall
  have hkx := hwi
  obtain ⟨w1, hwn⟩ : ∃ v, v = wx := ⟨_, rfl⟩
  rw [← hwn] at hkx ⊢
  have hs := hid (show Sx R w0 [refO B m t.W t.L, Ass.blk y 71 [i64 p.tt, i64 (p.s : Int), i64 p.g, i64 p.lm, i64 p.r, i64 (p.K : Int), .slice (some ⟨a.pb, 0, none⟩) p.P.length a.pc, .slice (some ⟨a.lb, 0, none⟩) p.LL.length a.lc, i64 (p.nd : Int), i64 p.n, i64 (p.th : Int), .slice (some ⟨a.hb, 0, none⟩) p.path.length a.hc, i64 (((5 : Nat) : Int)), i64 ((t.at_ : Nat)), ptr a.yc, pv, ptr ya, i64 (t.live), i64 (t.err), i64 (t.on), .bool false, i64 (t.ond)], rowO 3 1 (.slice (some ⟨a.pb, 0, none⟩) p.P.length a.pc) p.P.length (ints p.P), rowO 3 1 (.slice (some ⟨a.lb, 0, none⟩) p.LL.length a.lc) p.LL.length (ints p.LL), rowO 3 1 (.slice (some ⟨a.hb, 0, none⟩) p.path.length a.hc) p.path.length (ints (nats p.path)), r11O a.C p.K p.th a.yc t.cl, r6O (p.ct (p.v t.at_)) p.s p.g p.n ya t.ad] w1 from Sx.keep HS.out hkx)
  clear hwi hall hkx hwn HS
  have HS := hs
  clear hs
  obtain ⟨_, ⟨hb, _⟩, _⟩ := Sx.get (show Sx R w0 [Ass.blk y 71 [i64 p.tt, i64 (p.s : Int), i64 p.g, i64 p.lm, i64 p.r, i64 (p.K : Int), .slice (some ⟨a.pb, 0, none⟩) p.P.length a.pc, .slice (some ⟨a.lb, 0, none⟩) p.LL.length a.lc, i64 (p.nd : Int), i64 p.n, i64 (p.th : Int), .slice (some ⟨a.hb, 0, none⟩) p.path.length a.hc, i64 (((5 : Nat) : Int)), i64 ((t.at_ : Nat)), ptr a.yc, pv, ptr ya, i64 (t.live), i64 (t.err), i64 (t.on), .bool false, i64 (t.ond)], refO B m t.W t.L, rowO 3 1 (.slice (some ⟨a.pb, 0, none⟩) p.P.length a.pc) p.P.length (ints p.P), rowO 3 1 (.slice (some ⟨a.lb, 0, none⟩) p.LL.length a.lc) p.LL.length (ints p.LL), rowO 3 1 (.slice (some ⟨a.hb, 0, none⟩) p.path.length a.hc) p.path.length (ints (nats p.path)), r11O a.C p.K p.th a.yc t.cl, r6O (p.ct (p.v t.at_)) p.s p.g p.n ya t.ad] w1 from (Sx.pick (show Sx R w0 [refO B m t.W t.L, Ass.blk y 71 [i64 p.tt, i64 (p.s : Int), i64 p.g, i64 p.lm, i64 p.r, i64 (p.K : Int), .slice (some ⟨a.pb, 0, none⟩) p.P.length a.pc, .slice (some ⟨a.lb, 0, none⟩) p.LL.length a.lc, i64 (p.nd : Int), i64 p.n, i64 (p.th : Int), .slice (some ⟨a.hb, 0, none⟩) p.path.length a.hc, i64 (((5 : Nat) : Int)), i64 ((t.at_ : Nat)), ptr a.yc, pv, ptr ya, i64 (t.live), i64 (t.err), i64 (t.on), .bool false, i64 (t.ond)], rowO 3 1 (.slice (some ⟨a.pb, 0, none⟩) p.P.length a.pc) p.P.length (ints p.P), rowO 3 1 (.slice (some ⟨a.lb, 0, none⟩) p.LL.length a.lc) p.LL.length (ints p.LL), rowO 3 1 (.slice (some ⟨a.hb, 0, none⟩) p.path.length a.hc) p.path.length (ints (nats p.path)), r11O a.C p.K p.th a.yc t.cl, r6O (p.ct (p.v t.at_)) p.s p.g p.n ya t.ad] w1 from by repeat (with_reducible first | exact HS.out | apply Sx.alloc | apply Sx.drewN | apply Sx.drew)) 1 (by simp)))
  have qy := hb.k22
  clear hb
  go_wp2_with fail
  refine Calls.mono (Sx.call (q := Ass.star (refO B m x.W x.L) (r6O (p.ct (p.v t.at_)) p.s p.g p.n ya x)) (Sx.pair (show Sx R w0 [refO B m t.W t.L, r6O (p.ct (p.v t.at_)) p.s p.g p.n ya t.ad, Ass.blk y 71 [i64 p.tt, i64 (p.s : Int), i64 p.g, i64 p.lm, i64 p.r, i64 (p.K : Int), .slice (some ⟨a.pb, 0, none⟩) p.P.length a.pc, .slice (some ⟨a.lb, 0, none⟩) p.LL.length a.lc, i64 (p.nd : Int), i64 p.n, i64 (p.th : Int), .slice (some ⟨a.hb, 0, none⟩) p.path.length a.hc, i64 (((5 : Nat) : Int)), i64 ((t.at_ : Nat)), ptr a.yc, pv, ptr ya, i64 (t.live), i64 (t.err), i64 (t.on), .bool false, i64 (t.ond)], rowO 3 1 (.slice (some ⟨a.pb, 0, none⟩) p.P.length a.pc) p.P.length (ints p.P), rowO 3 1 (.slice (some ⟨a.lb, 0, none⟩) p.LL.length a.lc) p.LL.length (ints p.LL), rowO 3 1 (.slice (some ⟨a.hb, 0, none⟩) p.path.length a.hc) p.path.length (ints (nats p.path)), r11O a.C p.K p.th a.yc t.cl] _ from (Sx.pick (Sx.pick (show Sx R w0 [refO B m t.W t.L, Ass.blk y 71 [i64 p.tt, i64 (p.s : Int), i64 p.g, i64 p.lm, i64 p.r, i64 (p.K : Int), .slice (some ⟨a.pb, 0, none⟩) p.P.length a.pc, .slice (some ⟨a.lb, 0, none⟩) p.LL.length a.lc, i64 (p.nd : Int), i64 p.n, i64 (p.th : Int), .slice (some ⟨a.hb, 0, none⟩) p.path.length a.hc, i64 (((5 : Nat) : Int)), i64 ((t.at_ : Nat)), ptr a.yc, pv, ptr ya, i64 (t.live), i64 (t.err), i64 (t.on), .bool false, i64 (t.ond)], rowO 3 1 (.slice (some ⟨a.pb, 0, none⟩) p.P.length a.pc) p.P.length (ints p.P), rowO 3 1 (.slice (some ⟨a.lb, 0, none⟩) p.LL.length a.lc) p.LL.length (ints p.LL), rowO 3 1 (.slice (some ⟨a.hb, 0, none⟩) p.path.length a.hc) p.path.length (ints (nats p.path)), r11O a.C p.K p.th a.yc t.cl, r6O (p.ct (p.v t.at_)) p.s p.g p.n ya t.ad] _ from by repeat (with_reducible first | exact HS.out | apply Sx.alloc | apply Sx.drewN | apply Sx.drew)) 6 (by simp)) 1 (by simp)))) (fun Rq hr hz => (show Calls Try.prog 63 _ _ (fun e w' => e = .returned (.bool (decide (x.st = 9))) ∧ Tr _ Rq _ w') from by rw [HXN.out]; exact r6O_Step (t := t.a) hr hai (by omega) hsp hL))) ?_
  rintro e w2 ⟨rfl, hs⟩
  clear HS
  have HS := hid (show Sx R w0 [refO B m x.W x.L, r6O (p.ct (p.v t.at_)) p.s p.g p.n ya x, Ass.blk y 71 [i64 p.tt, i64 (p.s : Int), i64 p.g, i64 p.lm, i64 p.r, i64 (p.K : Int), .slice (some ⟨a.pb, 0, none⟩) p.P.length a.pc, .slice (some ⟨a.lb, 0, none⟩) p.LL.length a.lc, i64 (p.nd : Int), i64 p.n, i64 (p.th : Int), .slice (some ⟨a.hb, 0, none⟩) p.path.length a.hc, i64 (((5 : Nat) : Int)), i64 ((t.at_ : Nat)), ptr a.yc, pv, ptr ya, i64 (t.live), i64 (t.err), i64 (t.on), .bool false, i64 (t.ond)], rowO 3 1 (.slice (some ⟨a.pb, 0, none⟩) p.P.length a.pc) p.P.length (ints p.P), rowO 3 1 (.slice (some ⟨a.lb, 0, none⟩) p.LL.length a.lc) p.LL.length (ints p.LL), rowO 3 1 (.slice (some ⟨a.hb, 0, none⟩) p.path.length a.hc) p.path.length (ints (nats p.path)), r11O a.C p.K p.th a.yc t.cl] w2 from Sx.part hs)
  clear hs
  clear qy
  obtain ⟨_, ⟨hb, _⟩, _⟩ := Sx.get (show Sx R w0 [Ass.blk y 71 [i64 p.tt, i64 (p.s : Int), i64 p.g, i64 p.lm, i64 p.r, i64 (p.K : Int), .slice (some ⟨a.pb, 0, none⟩) p.P.length a.pc, .slice (some ⟨a.lb, 0, none⟩) p.LL.length a.lc, i64 (p.nd : Int), i64 p.n, i64 (p.th : Int), .slice (some ⟨a.hb, 0, none⟩) p.path.length a.hc, i64 (((5 : Nat) : Int)), i64 ((t.at_ : Nat)), ptr a.yc, pv, ptr ya, i64 (t.live), i64 (t.err), i64 (t.on), .bool false, i64 (t.ond)], refO B m x.W x.L, r6O (p.ct (p.v t.at_)) p.s p.g p.n ya x, rowO 3 1 (.slice (some ⟨a.pb, 0, none⟩) p.P.length a.pc) p.P.length (ints p.P), rowO 3 1 (.slice (some ⟨a.lb, 0, none⟩) p.LL.length a.lc) p.LL.length (ints p.LL), rowO 3 1 (.slice (some ⟨a.hb, 0, none⟩) p.path.length a.hc) p.path.length (ints (nats p.path)), r11O a.C p.K p.th a.yc t.cl] w2 from (Sx.pick (show Sx R w0 [refO B m x.W x.L, r6O (p.ct (p.v t.at_)) p.s p.g p.n ya x, Ass.blk y 71 [i64 p.tt, i64 (p.s : Int), i64 p.g, i64 p.lm, i64 p.r, i64 (p.K : Int), .slice (some ⟨a.pb, 0, none⟩) p.P.length a.pc, .slice (some ⟨a.lb, 0, none⟩) p.LL.length a.lc, i64 (p.nd : Int), i64 p.n, i64 (p.th : Int), .slice (some ⟨a.hb, 0, none⟩) p.path.length a.hc, i64 (((5 : Nat) : Int)), i64 ((t.at_ : Nat)), ptr a.yc, pv, ptr ya, i64 (t.live), i64 (t.err), i64 (t.on), .bool false, i64 (t.ond)], rowO 3 1 (.slice (some ⟨a.pb, 0, none⟩) p.P.length a.pc) p.P.length (ints p.P), rowO 3 1 (.slice (some ⟨a.lb, 0, none⟩) p.LL.length a.lc) p.LL.length (ints p.LL), rowO 3 1 (.slice (some ⟨a.hb, 0, none⟩) p.path.length a.hc) p.path.length (ints (nats p.path)), r11O a.C p.K p.th a.yc t.cl] w2 from by repeat (with_reducible first | exact HS.out | apply Sx.alloc | apply Sx.drewN | apply Sx.drew)) 2 (by simp)))
  have qy := hb.k22
  clear hb
  have g1 : decide (x.st = 9) = false := by simp [h9]
  rw [g1]
  go_wp2_with fail
  go_ret
  exact ⟨rfl, (show Sx R w0 [refO B m x.W x.L, r6O (p.ct (p.v t.at_)) p.s p.g p.n ya x, Ass.blk y 71 [i64 p.tt, i64 (p.s : Int), i64 p.g, i64 p.lm, i64 p.r, i64 (p.K : Int), .slice (some ⟨a.pb, 0, none⟩) p.P.length a.pc, .slice (some ⟨a.lb, 0, none⟩) p.LL.length a.lc, i64 (p.nd : Int), i64 p.n, i64 (p.th : Int), .slice (some ⟨a.hb, 0, none⟩) p.path.length a.hc, i64 (((5 : Nat) : Int)), i64 ((t.at_ : Nat)), ptr a.yc, pv, ptr ya, i64 (t.live), i64 (t.err), i64 (t.on), .bool false, i64 (t.ond)], rowO 3 1 (.slice (some ⟨a.pb, 0, none⟩) p.P.length a.pc) p.P.length (ints p.P), rowO 3 1 (.slice (some ⟨a.lb, 0, none⟩) p.LL.length a.lc) p.LL.length (ints p.LL), rowO 3 1 (.slice (some ⟨a.hb, 0, none⟩) p.path.length a.hc) p.path.length (ints (nats p.path)), r11O a.C p.K p.th a.yc t.cl] _ from (Sx.pick (Sx.pick (Sx.pick (Sx.pick (Sx.pick (Sx.pick (Sx.pick (show Sx R w0 [refO B m x.W x.L, r6O (p.ct (p.v t.at_)) p.s p.g p.n ya x, Ass.blk y 71 [i64 p.tt, i64 (p.s : Int), i64 p.g, i64 p.lm, i64 p.r, i64 (p.K : Int), .slice (some ⟨a.pb, 0, none⟩) p.P.length a.pc, .slice (some ⟨a.lb, 0, none⟩) p.LL.length a.lc, i64 (p.nd : Int), i64 p.n, i64 (p.th : Int), .slice (some ⟨a.hb, 0, none⟩) p.path.length a.hc, i64 (((5 : Nat) : Int)), i64 ((t.at_ : Nat)), ptr a.yc, pv, ptr ya, i64 (t.live), i64 (t.err), i64 (t.on), .bool false, i64 (t.ond)], rowO 3 1 (.slice (some ⟨a.pb, 0, none⟩) p.P.length a.pc) p.P.length (ints p.P), rowO 3 1 (.slice (some ⟨a.lb, 0, none⟩) p.LL.length a.lc) p.LL.length (ints p.LL), rowO 3 1 (.slice (some ⟨a.hb, 0, none⟩) p.path.length a.hc) p.path.length (ints (nats p.path)), r11O a.C p.K p.th a.yc t.cl] _ from by repeat (with_reducible first | exact HS.out | apply Sx.alloc | apply Sx.drewN | apply Sx.drew)) 6 (by simp)) 6 (by simp)) 6 (by simp)) 6 (by simp)) 6 (by simp)) 6 (by simp)) 6 (by simp)))⟩
set_option maxHeartbeats 4000000 in
theorem r12_step5more {ya : Nat} (hp : P12OK p) (ha : t.at_ < p.path.length) (hn : t.cl.n < p.K) (hf : t.cl.fin = 1) (hai : AInv (p.ct (p.v t.at_)) p.s p.g p.n t.a) (hsp : t.ad.sp ≤ 2000) (hL : t.L.length ≤ 1000000000) (h9 : (aNext (p.ct (p.v t.at_)) p.s p.g p.n t.a).st = 9) (hl : t.at_ + 1 < p.path.length) (h : (stars (refO B m t.W t.L :: [Ass.blk y 71 [i64 p.tt, i64 (p.s : Int), i64 p.g, i64 p.lm, i64 p.r, i64 (p.K : Int), .slice (some ⟨a.pb, 0, none⟩) p.P.length a.pc, .slice (some ⟨a.lb, 0, none⟩) p.LL.length a.lc, i64 (p.nd : Int), i64 p.n, i64 (p.th : Int), .slice (some ⟨a.hb, 0, none⟩) p.path.length a.hc, i64 (((5 : Nat) : Int)), i64 ((t.at_ : Nat)), ptr a.yc, pv, ptr ya, i64 (t.live), i64 (t.err), i64 (t.on), .bool false, i64 (t.ond)], rowO 3 1 (.slice (some ⟨a.pb, 0, none⟩) p.P.length a.pc) p.P.length (ints p.P), rowO 3 1 (.slice (some ⟨a.lb, 0, none⟩) p.LL.length a.lc) p.LL.length (ints p.LL), rowO 3 1 (.slice (some ⟨a.hb, 0, none⟩) p.path.length a.hc) p.path.length (ints (nats p.path)), r11O a.C p.K p.th a.yc t.cl, r6O (p.ct (p.v t.at_)) p.s p.g p.n ya t.ad])).At R w) :
 Calls Try.prog 37 #[ptr y, ptr m] w fun e w' => ∃ v : Value, e = .returned (.bool false) ∧ Tr (stars ((refO B m (aNext (p.ct (p.v t.at_)) p.s p.g p.n t.a).W (aNext (p.ct (p.v t.at_)) p.s p.g p.n t.a).L) :: (Ass.ex fun y' : Nat => (r6O (p.ct (p.v (t.at_ + 1))) p.s p.g p.n y' (ad0 p)).with_ (v = ptr y')) :: [Ass.blk y 71 [i64 p.tt, i64 (p.s : Int), i64 p.g, i64 p.lm, i64 p.r, i64 (p.K : Int), .slice (some ⟨a.pb, 0, none⟩) p.P.length a.pc, .slice (some ⟨a.lb, 0, none⟩) p.LL.length a.lc, i64 (p.nd : Int), i64 p.n, i64 (p.th : Int), .slice (some ⟨a.hb, 0, none⟩) p.path.length a.hc, i64 (((5 : Nat) : Int)), i64 (((t.at_ + 1 : Nat) : Int)), ptr a.yc, pv, v, i64 (t.live), i64 (t.err), i64 (t.on), .bool false, i64 (t.ond)], rowO 3 1 (.slice (some ⟨a.pb, 0, none⟩) p.P.length a.pc) p.P.length (ints p.P), rowO 3 1 (.slice (some ⟨a.lb, 0, none⟩) p.LL.length a.lc) p.LL.length (ints p.LL), rowO 3 1 (.slice (some ⟨a.hb, 0, none⟩) p.path.length a.hc) p.path.length (ints (nats p.path)), r11O a.C p.K p.th a.yc t.cl])) R w w' := by
 obtain ⟨w0, hw0⟩ : ∃ v, v = w := ⟨_, rfl⟩
 rw [← hw0] at h ⊢
 have HS := hid (show Sx R w0 [refO B m t.W t.L, Ass.blk y 71 [i64 p.tt, i64 (p.s : Int), i64 p.g, i64 p.lm, i64 p.r, i64 (p.K : Int), .slice (some ⟨a.pb, 0, none⟩) p.P.length a.pc, .slice (some ⟨a.lb, 0, none⟩) p.LL.length a.lc, i64 (p.nd : Int), i64 p.n, i64 (p.th : Int), .slice (some ⟨a.hb, 0, none⟩) p.path.length a.hc, i64 (((5 : Nat) : Int)), i64 ((t.at_ : Nat)), ptr a.yc, pv, ptr ya, i64 (t.live), i64 (t.err), i64 (t.on), .bool false, i64 (t.ond)], rowO 3 1 (.slice (some ⟨a.pb, 0, none⟩) p.P.length a.pc) p.P.length (ints p.P), rowO 3 1 (.slice (some ⟨a.lb, 0, none⟩) p.LL.length a.lc) p.LL.length (ints p.LL), rowO 3 1 (.slice (some ⟨a.hb, 0, none⟩) p.path.length a.hc) p.path.length (ints (nats p.path)), r11O a.C p.K p.th a.yc t.cl, r6O (p.ct (p.v t.at_)) p.s p.g p.n ya t.ad] w0 from Sx.start h)
 clear h hw0
 obtain ⟨x, hx⟩ : ∃ x, x = aNext (p.ct (p.v t.at_)) p.s p.g p.n t.a := ⟨_, rfl⟩
 rw [← hx] at h9 ⊢
 have HXN := hid hx
 clear hx
 have hctb := hp.ct_lt (hp.v1 ha)
 have hq264 := hp.q264
 have hs8 := hp.s8
 have hp1 := hp.p1
 have hk1 := hp.k1
 obtain ⟨ae, hae⟩ : ∃ ae : Int, ae = (if t.cl.fin = 2 then 3 else 0) := ⟨_, rfl⟩
 have HAE := hid hae
 clear hae
 have htk0 := fun w' => ref_Ticket p.tt p.s p.g p.lm p.r p.K (some ⟨a.pb, 0, none⟩) p.P.length a.pc (some ⟨a.lb, 0, none⟩) p.LL.length a.lc (t.cl.n : Int) w' (by omega) (by omega) (by omega) (by omega) (by omega)
 rw [show (p.P.length : Int) * (6 + 2 * (p.s : Int)) + 2 * (t.cl.n : Int) = ((t.tk p : Nat) : Int) from by unfold S12.tk P12.q; push_cast; rfl] at htk0
 have HTK := hid htk0
 clear htk0
 go_enter Try.func37, Try.ntmps37
 go_upto_region 1 with fail
 apply wp_region_text (WI := fun S wx => Keep0 w0 wx) (by kernel_rfl) (by kernel_rfl)
 case hob =>
  iterate 8
   apply Oblig.cons
   case h =>
    intro S w1 hwi hSi hd hcl
    apply StepOk.intro
    intro K hK
    obtain ⟨_, ⟨hb, _⟩, _⟩ := Sx.get (Sx.pick (Sx.keep HS.out hwi) 1 (by simp))
    have qy := hb.k22
    clear hb
    obtain ⟨_, ⟨hcl, _⟩, _⟩ := Sx.get (Sx.pick (Sx.keep HS.out hwi) 5 (by simp))
    go_simp
    apply hK
    · rfl
    · conv => (lhs; whnf)
    · exact hwi
   simp only [put_lit, put_none]
   try dsimp only [List.set_cons_succ, List.set_cons_zero]
  apply Oblig.cons
  case h =>
   intro S w1 hwi hSi hd hcl
   apply StepOk.intro
   intro K hK
   obtain ⟨_, ⟨hb, _⟩, _⟩ := Sx.get (Sx.pick (Sx.keep HS.out hwi) 1 (by simp))
   have qy := hb.k22
   clear hb
   obtain ⟨_, ⟨hcl, _⟩, _⟩ := Sx.get (Sx.pick (Sx.keep HS.out hwi) 5 (by simp))
   go_simp
   refine (show Calls Try.prog 52 _ w1 (Ret (.agg #[i64 ae, i64 (t.cl.n : Int), .bool false, i64 0]) w1) from by have h := r11_Ans t.cl hcl; unfold clAns at h; rw [← HAE.out] at h; exact h).mono ?_
   rintro e w2 ⟨rfl, hk⟩
   apply hK
   · rfl
   · conv => (lhs; whnf)
   · exact Keep0.step hwi hk
  simp only [put_lit, put_none]
  try dsimp only [List.set_cons_succ, List.set_cons_zero]
  apply Oblig.cons
  case h =>
   intro S w1 hwi hSi hd hcl
   apply StepOk.intro
   intro K hK
   obtain ⟨_, ⟨hb, _⟩, _⟩ := Sx.get (Sx.pick (Sx.keep HS.out hwi) 1 (by simp))
   have qy := hb.k22
   clear hb
   obtain ⟨_, ⟨hcl, _⟩, _⟩ := Sx.get (Sx.pick (Sx.keep HS.out hwi) 5 (by simp))
   go_simp
   apply hK
   · rfl
   · conv => (lhs; whnf)
   · exact hwi
  simp only [put_lit, put_none]
  try dsimp only [List.set_cons_succ, List.set_cons_zero]
  apply Oblig.cons
  case h =>
   intro S w1 hwi hSi hd hcl
   apply StepOk.intro
   intro K hK
   go_simp
   refine (HTK.out _).mono ?_
   rintro e w2 ⟨rfl, hk⟩
   apply hK
   · rfl
   · conv => (lhs; whnf)
   · exact Keep0.step hwi hk
  simp only [put_lit, put_none]
  try dsimp only [List.set_cons_succ, List.set_cons_zero]
  apply Oblig.cons
  case h =>
   intro S w1 hwi hSi hd hcl
   apply StepOk.intro
   intro K hK
   obtain ⟨_, ⟨hb, _⟩, _⟩ := Sx.get (Sx.pick (Sx.keep HS.out hwi) 1 (by simp))
   have qy := hb.k22
   clear hb
   obtain ⟨_, ⟨hcl, _⟩, _⟩ := Sx.get (Sx.pick (Sx.keep HS.out hwi) 5 (by simp))
   go_simp
   apply hK
   · rfl
   · conv => (lhs; whnf)
   · exact hwi
  simp only [put_lit, put_none]
  try dsimp only [List.set_cons_succ, List.set_cons_zero]
  exact Oblig.nil
 case h0 =>
  exact (Keep.refl _ _).drew
 case hend =>
  intro S wx hwi hall
  have hkx := hwi
  obtain ⟨w1, hwn⟩ : ∃ v, v = wx := ⟨_, rfl⟩
  rw [← hwn] at hkx ⊢
  have hs := hid (show Sx R w0 [refO B m t.W t.L, Ass.blk y 71 [i64 p.tt, i64 (p.s : Int), i64 p.g, i64 p.lm, i64 p.r, i64 (p.K : Int), .slice (some ⟨a.pb, 0, none⟩) p.P.length a.pc, .slice (some ⟨a.lb, 0, none⟩) p.LL.length a.lc, i64 (p.nd : Int), i64 p.n, i64 (p.th : Int), .slice (some ⟨a.hb, 0, none⟩) p.path.length a.hc, i64 (((5 : Nat) : Int)), i64 ((t.at_ : Nat)), ptr a.yc, pv, ptr ya, i64 (t.live), i64 (t.err), i64 (t.on), .bool false, i64 (t.ond)], rowO 3 1 (.slice (some ⟨a.pb, 0, none⟩) p.P.length a.pc) p.P.length (ints p.P), rowO 3 1 (.slice (some ⟨a.lb, 0, none⟩) p.LL.length a.lc) p.LL.length (ints p.LL), rowO 3 1 (.slice (some ⟨a.hb, 0, none⟩) p.path.length a.hc) p.path.length (ints (nats p.path)), r11O a.C p.K p.th a.yc t.cl, r6O (p.ct (p.v t.at_)) p.s p.g p.n ya t.ad] w1 from Sx.keep HS.out hkx)
  clear hwi hall hkx hwn HS
  have HS := hs
  clear hs
  obtain ⟨_, ⟨hb, _⟩, _⟩ := Sx.get (show Sx R w0 [Ass.blk y 71 [i64 p.tt, i64 (p.s : Int), i64 p.g, i64 p.lm, i64 p.r, i64 (p.K : Int), .slice (some ⟨a.pb, 0, none⟩) p.P.length a.pc, .slice (some ⟨a.lb, 0, none⟩) p.LL.length a.lc, i64 (p.nd : Int), i64 p.n, i64 (p.th : Int), .slice (some ⟨a.hb, 0, none⟩) p.path.length a.hc, i64 (((5 : Nat) : Int)), i64 ((t.at_ : Nat)), ptr a.yc, pv, ptr ya, i64 (t.live), i64 (t.err), i64 (t.on), .bool false, i64 (t.ond)], refO B m t.W t.L, rowO 3 1 (.slice (some ⟨a.pb, 0, none⟩) p.P.length a.pc) p.P.length (ints p.P), rowO 3 1 (.slice (some ⟨a.lb, 0, none⟩) p.LL.length a.lc) p.LL.length (ints p.LL), rowO 3 1 (.slice (some ⟨a.hb, 0, none⟩) p.path.length a.hc) p.path.length (ints (nats p.path)), r11O a.C p.K p.th a.yc t.cl, r6O (p.ct (p.v t.at_)) p.s p.g p.n ya t.ad] w1 from (Sx.pick (show Sx R w0 [refO B m t.W t.L, Ass.blk y 71 [i64 p.tt, i64 (p.s : Int), i64 p.g, i64 p.lm, i64 p.r, i64 (p.K : Int), .slice (some ⟨a.pb, 0, none⟩) p.P.length a.pc, .slice (some ⟨a.lb, 0, none⟩) p.LL.length a.lc, i64 (p.nd : Int), i64 p.n, i64 (p.th : Int), .slice (some ⟨a.hb, 0, none⟩) p.path.length a.hc, i64 (((5 : Nat) : Int)), i64 ((t.at_ : Nat)), ptr a.yc, pv, ptr ya, i64 (t.live), i64 (t.err), i64 (t.on), .bool false, i64 (t.ond)], rowO 3 1 (.slice (some ⟨a.pb, 0, none⟩) p.P.length a.pc) p.P.length (ints p.P), rowO 3 1 (.slice (some ⟨a.lb, 0, none⟩) p.LL.length a.lc) p.LL.length (ints p.LL), rowO 3 1 (.slice (some ⟨a.hb, 0, none⟩) p.path.length a.hc) p.path.length (ints (nats p.path)), r11O a.C p.K p.th a.yc t.cl, r6O (p.ct (p.v t.at_)) p.s p.g p.n ya t.ad] w1 from by repeat (with_reducible first | exact HS.out | apply Sx.alloc | apply Sx.drewN | apply Sx.drew)) 1 (by simp)))
  have qy := hb.k22
  clear hb
  go_wp2_with fail
  refine Calls.mono (Sx.call (q := Ass.star (refO B m x.W x.L) (r6O (p.ct (p.v t.at_)) p.s p.g p.n ya x)) (Sx.pair (show Sx R w0 [refO B m t.W t.L, r6O (p.ct (p.v t.at_)) p.s p.g p.n ya t.ad, Ass.blk y 71 [i64 p.tt, i64 (p.s : Int), i64 p.g, i64 p.lm, i64 p.r, i64 (p.K : Int), .slice (some ⟨a.pb, 0, none⟩) p.P.length a.pc, .slice (some ⟨a.lb, 0, none⟩) p.LL.length a.lc, i64 (p.nd : Int), i64 p.n, i64 (p.th : Int), .slice (some ⟨a.hb, 0, none⟩) p.path.length a.hc, i64 (((5 : Nat) : Int)), i64 ((t.at_ : Nat)), ptr a.yc, pv, ptr ya, i64 (t.live), i64 (t.err), i64 (t.on), .bool false, i64 (t.ond)], rowO 3 1 (.slice (some ⟨a.pb, 0, none⟩) p.P.length a.pc) p.P.length (ints p.P), rowO 3 1 (.slice (some ⟨a.lb, 0, none⟩) p.LL.length a.lc) p.LL.length (ints p.LL), rowO 3 1 (.slice (some ⟨a.hb, 0, none⟩) p.path.length a.hc) p.path.length (ints (nats p.path)), r11O a.C p.K p.th a.yc t.cl] _ from (Sx.pick (Sx.pick (show Sx R w0 [refO B m t.W t.L, Ass.blk y 71 [i64 p.tt, i64 (p.s : Int), i64 p.g, i64 p.lm, i64 p.r, i64 (p.K : Int), .slice (some ⟨a.pb, 0, none⟩) p.P.length a.pc, .slice (some ⟨a.lb, 0, none⟩) p.LL.length a.lc, i64 (p.nd : Int), i64 p.n, i64 (p.th : Int), .slice (some ⟨a.hb, 0, none⟩) p.path.length a.hc, i64 (((5 : Nat) : Int)), i64 ((t.at_ : Nat)), ptr a.yc, pv, ptr ya, i64 (t.live), i64 (t.err), i64 (t.on), .bool false, i64 (t.ond)], rowO 3 1 (.slice (some ⟨a.pb, 0, none⟩) p.P.length a.pc) p.P.length (ints p.P), rowO 3 1 (.slice (some ⟨a.lb, 0, none⟩) p.LL.length a.lc) p.LL.length (ints p.LL), rowO 3 1 (.slice (some ⟨a.hb, 0, none⟩) p.path.length a.hc) p.path.length (ints (nats p.path)), r11O a.C p.K p.th a.yc t.cl, r6O (p.ct (p.v t.at_)) p.s p.g p.n ya t.ad] _ from by repeat (with_reducible first | exact HS.out | apply Sx.alloc | apply Sx.drewN | apply Sx.drew)) 6 (by simp)) 1 (by simp)))) (fun Rq hr hz => (show Calls Try.prog 63 _ _ (fun e w' => e = .returned (.bool (decide (x.st = 9))) ∧ Tr _ Rq _ w') from by rw [HXN.out]; exact r6O_Step (t := t.a) hr hai (by omega) hsp hL))) ?_
  rintro e w2 ⟨rfl, hs⟩
  clear HS
  have HS := hid (show Sx R w0 [refO B m x.W x.L, r6O (p.ct (p.v t.at_)) p.s p.g p.n ya x, Ass.blk y 71 [i64 p.tt, i64 (p.s : Int), i64 p.g, i64 p.lm, i64 p.r, i64 (p.K : Int), .slice (some ⟨a.pb, 0, none⟩) p.P.length a.pc, .slice (some ⟨a.lb, 0, none⟩) p.LL.length a.lc, i64 (p.nd : Int), i64 p.n, i64 (p.th : Int), .slice (some ⟨a.hb, 0, none⟩) p.path.length a.hc, i64 (((5 : Nat) : Int)), i64 ((t.at_ : Nat)), ptr a.yc, pv, ptr ya, i64 (t.live), i64 (t.err), i64 (t.on), .bool false, i64 (t.ond)], rowO 3 1 (.slice (some ⟨a.pb, 0, none⟩) p.P.length a.pc) p.P.length (ints p.P), rowO 3 1 (.slice (some ⟨a.lb, 0, none⟩) p.LL.length a.lc) p.LL.length (ints p.LL), rowO 3 1 (.slice (some ⟨a.hb, 0, none⟩) p.path.length a.hc) p.path.length (ints (nats p.path)), r11O a.C p.K p.th a.yc t.cl] w2 from Sx.part hs)
  clear hs
  clear qy
  obtain ⟨_, ⟨hb, _⟩, _⟩ := Sx.get (show Sx R w0 [Ass.blk y 71 [i64 p.tt, i64 (p.s : Int), i64 p.g, i64 p.lm, i64 p.r, i64 (p.K : Int), .slice (some ⟨a.pb, 0, none⟩) p.P.length a.pc, .slice (some ⟨a.lb, 0, none⟩) p.LL.length a.lc, i64 (p.nd : Int), i64 p.n, i64 (p.th : Int), .slice (some ⟨a.hb, 0, none⟩) p.path.length a.hc, i64 (((5 : Nat) : Int)), i64 ((t.at_ : Nat)), ptr a.yc, pv, ptr ya, i64 (t.live), i64 (t.err), i64 (t.on), .bool false, i64 (t.ond)], refO B m x.W x.L, r6O (p.ct (p.v t.at_)) p.s p.g p.n ya x, rowO 3 1 (.slice (some ⟨a.pb, 0, none⟩) p.P.length a.pc) p.P.length (ints p.P), rowO 3 1 (.slice (some ⟨a.lb, 0, none⟩) p.LL.length a.lc) p.LL.length (ints p.LL), rowO 3 1 (.slice (some ⟨a.hb, 0, none⟩) p.path.length a.hc) p.path.length (ints (nats p.path)), r11O a.C p.K p.th a.yc t.cl] w2 from (Sx.pick (show Sx R w0 [refO B m x.W x.L, r6O (p.ct (p.v t.at_)) p.s p.g p.n ya x, Ass.blk y 71 [i64 p.tt, i64 (p.s : Int), i64 p.g, i64 p.lm, i64 p.r, i64 (p.K : Int), .slice (some ⟨a.pb, 0, none⟩) p.P.length a.pc, .slice (some ⟨a.lb, 0, none⟩) p.LL.length a.lc, i64 (p.nd : Int), i64 p.n, i64 (p.th : Int), .slice (some ⟨a.hb, 0, none⟩) p.path.length a.hc, i64 (((5 : Nat) : Int)), i64 ((t.at_ : Nat)), ptr a.yc, pv, ptr ya, i64 (t.live), i64 (t.err), i64 (t.on), .bool false, i64 (t.ond)], rowO 3 1 (.slice (some ⟨a.pb, 0, none⟩) p.P.length a.pc) p.P.length (ints p.P), rowO 3 1 (.slice (some ⟨a.lb, 0, none⟩) p.LL.length a.lc) p.LL.length (ints p.LL), rowO 3 1 (.slice (some ⟨a.hb, 0, none⟩) p.path.length a.hc) p.path.length (ints (nats p.path)), r11O a.C p.K p.th a.yc t.cl] w2 from by repeat (with_reducible first | exact HS.out | apply Sx.alloc | apply Sx.drewN | apply Sx.drew)) 2 (by simp)))
  have qy := hb.k22
  clear hb
  have g1 : decide (x.st = 9) = true := by simp [h9]
  rw [g1]
  clear g1
  go_wp2_with fail
  have hs := Sx.drop (show Sx R w0 [r6O (p.ct (p.v t.at_)) p.s p.g p.n ya x, refO B m x.W x.L, Ass.blk y 71 [i64 p.tt, i64 (p.s : Int), i64 p.g, i64 p.lm, i64 p.r, i64 (p.K : Int), .slice (some ⟨a.pb, 0, none⟩) p.P.length a.pc, .slice (some ⟨a.lb, 0, none⟩) p.LL.length a.lc, i64 (p.nd : Int), i64 p.n, i64 (p.th : Int), .slice (some ⟨a.hb, 0, none⟩) p.path.length a.hc, i64 (((5 : Nat) : Int)), i64 ((t.at_ : Nat)), ptr a.yc, pv, ptr ya, i64 (t.live), i64 (t.err), i64 (t.on), .bool false, i64 (t.ond)], rowO 3 1 (.slice (some ⟨a.pb, 0, none⟩) p.P.length a.pc) p.P.length (ints p.P), rowO 3 1 (.slice (some ⟨a.lb, 0, none⟩) p.LL.length a.lc) p.LL.length (ints p.LL), rowO 3 1 (.slice (some ⟨a.hb, 0, none⟩) p.path.length a.hc) p.path.length (ints (nats p.path)), r11O a.C p.K p.th a.yc t.cl] w2 from (Sx.pick (show Sx R w0 [refO B m x.W x.L, r6O (p.ct (p.v t.at_)) p.s p.g p.n ya x, Ass.blk y 71 [i64 p.tt, i64 (p.s : Int), i64 p.g, i64 p.lm, i64 p.r, i64 (p.K : Int), .slice (some ⟨a.pb, 0, none⟩) p.P.length a.pc, .slice (some ⟨a.lb, 0, none⟩) p.LL.length a.lc, i64 (p.nd : Int), i64 p.n, i64 (p.th : Int), .slice (some ⟨a.hb, 0, none⟩) p.path.length a.hc, i64 (((5 : Nat) : Int)), i64 ((t.at_ : Nat)), ptr a.yc, pv, ptr ya, i64 (t.live), i64 (t.err), i64 (t.on), .bool false, i64 (t.ond)], rowO 3 1 (.slice (some ⟨a.pb, 0, none⟩) p.P.length a.pc) p.P.length (ints p.P), rowO 3 1 (.slice (some ⟨a.lb, 0, none⟩) p.LL.length a.lc) p.LL.length (ints p.LL), rowO 3 1 (.slice (some ⟨a.hb, 0, none⟩) p.path.length a.hc) p.path.length (ints (nats p.path)), r11O a.C p.K p.th a.yc t.cl] w2 from by repeat (with_reducible first | exact HS.out | apply Sx.alloc | apply Sx.drewN | apply Sx.drew)) 1 (by simp)))
  clear HS
  have HS := hid hs
  clear hs
  have hs := hid (show Sx R w0 [Ass.blk y 71 [i64 p.tt, i64 (p.s : Int), i64 p.g, i64 p.lm, i64 p.r, i64 (p.K : Int), .slice (some ⟨a.pb, 0, none⟩) p.P.length a.pc, .slice (some ⟨a.lb, 0, none⟩) p.LL.length a.lc, i64 (p.nd : Int), i64 p.n, i64 (p.th : Int), .slice (some ⟨a.hb, 0, none⟩) p.path.length a.hc, i64 (((5 : Nat) : Int)), i64 ((t.at_ : Nat)), ptr a.yc, pv, ptr ya, i64 (t.live), i64 (t.err), i64 (t.on), .bool false, i64 (t.ond)], rowO 3 1 (.slice (some ⟨a.pb, 0, none⟩) p.P.length a.pc) p.P.length (ints p.P), rowO 3 1 (.slice (some ⟨a.lb, 0, none⟩) p.LL.length a.lc) p.LL.length (ints p.LL), rowO 3 1 (.slice (some ⟨a.hb, 0, none⟩) p.path.length a.hc) p.path.length (ints (nats p.path)), r11O a.C p.K p.th a.yc t.cl, refO B m x.W x.L] w2 from (Sx.pick (Sx.pick (Sx.pick (Sx.pick (Sx.pick (show Sx R w0 [refO B m x.W x.L, Ass.blk y 71 [i64 p.tt, i64 (p.s : Int), i64 p.g, i64 p.lm, i64 p.r, i64 (p.K : Int), .slice (some ⟨a.pb, 0, none⟩) p.P.length a.pc, .slice (some ⟨a.lb, 0, none⟩) p.LL.length a.lc, i64 (p.nd : Int), i64 p.n, i64 (p.th : Int), .slice (some ⟨a.hb, 0, none⟩) p.path.length a.hc, i64 (((5 : Nat) : Int)), i64 ((t.at_ : Nat)), ptr a.yc, pv, ptr ya, i64 (t.live), i64 (t.err), i64 (t.on), .bool false, i64 (t.ond)], rowO 3 1 (.slice (some ⟨a.pb, 0, none⟩) p.P.length a.pc) p.P.length (ints p.P), rowO 3 1 (.slice (some ⟨a.lb, 0, none⟩) p.LL.length a.lc) p.LL.length (ints p.LL), rowO 3 1 (.slice (some ⟨a.hb, 0, none⟩) p.path.length a.hc) p.path.length (ints (nats p.path)), r11O a.C p.K p.th a.yc t.cl] w2 from by repeat (with_reducible first | exact HS.out | apply Sx.alloc | apply Sx.drewN | apply Sx.drew)) 5 (by simp)) 5 (by simp)) 5 (by simp)) 5 (by simp)) 5 (by simp)))
  clear HS
  have HS := hs
  clear hs
  refine Calls.mono (Sx.callx (Sx.group [Ass.blk y 71 [i64 p.tt, i64 (p.s : Int), i64 p.g, i64 p.lm, i64 p.r, i64 (p.K : Int), .slice (some ⟨a.pb, 0, none⟩) p.P.length a.pc, .slice (some ⟨a.lb, 0, none⟩) p.LL.length a.lc, i64 (p.nd : Int), i64 p.n, i64 (p.th : Int), .slice (some ⟨a.hb, 0, none⟩) p.path.length a.hc, i64 (((5 : Nat) : Int)), i64 ((t.at_ : Nat)), ptr a.yc, pv, ptr ya, i64 (t.live), i64 (t.err), i64 (t.on), .bool false, i64 (t.ond)], rowO 3 1 (.slice (some ⟨a.pb, 0, none⟩) p.P.length a.pc) p.P.length (ints p.P), rowO 3 1 (.slice (some ⟨a.lb, 0, none⟩) p.LL.length a.lc) p.LL.length (ints p.LL), rowO 3 1 (.slice (some ⟨a.hb, 0, none⟩) p.path.length a.hc) p.path.length (ints (nats p.path)), r11O a.C p.K p.th a.yc t.cl] (l := [refO B m x.W x.L]) HS.out) (fun Rq hr _ => r12_added_more (t := { t with ph := 5, ad := x }) (pv := pv) (av := ptr ya) hp hl hr)) ?_
  rintro e w3 ⟨v, rfl, hs⟩
  clear HS
  have HS := hid (show Sx R w0 [(Ass.ex fun y' : Nat => (r6O (p.ct (p.v (t.at_ + 1))) p.s p.g p.n y' (ad0 p)).with_ (v = ptr y')), Ass.blk y 71 [i64 p.tt, i64 (p.s : Int), i64 p.g, i64 p.lm, i64 p.r, i64 (p.K : Int), .slice (some ⟨a.pb, 0, none⟩) p.P.length a.pc, .slice (some ⟨a.lb, 0, none⟩) p.LL.length a.lc, i64 (p.nd : Int), i64 p.n, i64 (p.th : Int), .slice (some ⟨a.hb, 0, none⟩) p.path.length a.hc, i64 (((5 : Nat) : Int)), i64 (((t.at_ + 1 : Nat) : Int)), ptr a.yc, pv, v, i64 (t.live), i64 (t.err), i64 (t.on), .bool false, i64 (t.ond)], rowO 3 1 (.slice (some ⟨a.pb, 0, none⟩) p.P.length a.pc) p.P.length (ints p.P), rowO 3 1 (.slice (some ⟨a.lb, 0, none⟩) p.LL.length a.lc) p.LL.length (ints p.LL), rowO 3 1 (.slice (some ⟨a.hb, 0, none⟩) p.path.length a.hc) p.path.length (ints (nats p.path)), r11O a.C p.K p.th a.yc t.cl, refO B m x.W x.L] w3 from Sx.ungroup _ hs)
  clear hs qy
  obtain ⟨_, ⟨hb, _⟩, _⟩ := Sx.get (show Sx R w0 [Ass.blk y 71 [i64 p.tt, i64 (p.s : Int), i64 p.g, i64 p.lm, i64 p.r, i64 (p.K : Int), .slice (some ⟨a.pb, 0, none⟩) p.P.length a.pc, .slice (some ⟨a.lb, 0, none⟩) p.LL.length a.lc, i64 (p.nd : Int), i64 p.n, i64 (p.th : Int), .slice (some ⟨a.hb, 0, none⟩) p.path.length a.hc, i64 (((5 : Nat) : Int)), i64 (((t.at_ + 1 : Nat) : Int)), ptr a.yc, pv, v, i64 (t.live), i64 (t.err), i64 (t.on), .bool false, i64 (t.ond)], (Ass.ex fun y' : Nat => (r6O (p.ct (p.v (t.at_ + 1))) p.s p.g p.n y' (ad0 p)).with_ (v = ptr y')), rowO 3 1 (.slice (some ⟨a.pb, 0, none⟩) p.P.length a.pc) p.P.length (ints p.P), rowO 3 1 (.slice (some ⟨a.lb, 0, none⟩) p.LL.length a.lc) p.LL.length (ints p.LL), rowO 3 1 (.slice (some ⟨a.hb, 0, none⟩) p.path.length a.hc) p.path.length (ints (nats p.path)), r11O a.C p.K p.th a.yc t.cl, refO B m x.W x.L] w3 from (Sx.pick (show Sx R w0 [(Ass.ex fun y' : Nat => (r6O (p.ct (p.v (t.at_ + 1))) p.s p.g p.n y' (ad0 p)).with_ (v = ptr y')), Ass.blk y 71 [i64 p.tt, i64 (p.s : Int), i64 p.g, i64 p.lm, i64 p.r, i64 (p.K : Int), .slice (some ⟨a.pb, 0, none⟩) p.P.length a.pc, .slice (some ⟨a.lb, 0, none⟩) p.LL.length a.lc, i64 (p.nd : Int), i64 p.n, i64 (p.th : Int), .slice (some ⟨a.hb, 0, none⟩) p.path.length a.hc, i64 (((5 : Nat) : Int)), i64 (((t.at_ + 1 : Nat) : Int)), ptr a.yc, pv, v, i64 (t.live), i64 (t.err), i64 (t.on), .bool false, i64 (t.ond)], rowO 3 1 (.slice (some ⟨a.pb, 0, none⟩) p.P.length a.pc) p.P.length (ints p.P), rowO 3 1 (.slice (some ⟨a.lb, 0, none⟩) p.LL.length a.lc) p.LL.length (ints p.LL), rowO 3 1 (.slice (some ⟨a.hb, 0, none⟩) p.path.length a.hc) p.path.length (ints (nats p.path)), r11O a.C p.K p.th a.yc t.cl, refO B m x.W x.L] w3 from by repeat (with_reducible first | exact HS.out | apply Sx.alloc | apply Sx.drewN | apply Sx.drew)) 1 (by simp)))
  have qy := hb.k22
  clear hb
  go_wp2_with fail
  go_ret
  exact ⟨v, rfl, (show Sx R w0 [refO B m x.W x.L, (Ass.ex fun y' : Nat => (r6O (p.ct (p.v (t.at_ + 1))) p.s p.g p.n y' (ad0 p)).with_ (v = ptr y')), Ass.blk y 71 [i64 p.tt, i64 (p.s : Int), i64 p.g, i64 p.lm, i64 p.r, i64 (p.K : Int), .slice (some ⟨a.pb, 0, none⟩) p.P.length a.pc, .slice (some ⟨a.lb, 0, none⟩) p.LL.length a.lc, i64 (p.nd : Int), i64 p.n, i64 (p.th : Int), .slice (some ⟨a.hb, 0, none⟩) p.path.length a.hc, i64 (((5 : Nat) : Int)), i64 (((t.at_ + 1 : Nat) : Int)), ptr a.yc, pv, v, i64 (t.live), i64 (t.err), i64 (t.on), .bool false, i64 (t.ond)], rowO 3 1 (.slice (some ⟨a.pb, 0, none⟩) p.P.length a.pc) p.P.length (ints p.P), rowO 3 1 (.slice (some ⟨a.lb, 0, none⟩) p.LL.length a.lc) p.LL.length (ints p.LL), rowO 3 1 (.slice (some ⟨a.hb, 0, none⟩) p.path.length a.hc) p.path.length (ints (nats p.path)), r11O a.C p.K p.th a.yc t.cl] _ from (Sx.pick (Sx.pick (Sx.pick (Sx.pick (Sx.pick (Sx.pick (Sx.pick (show Sx R w0 [(Ass.ex fun y' : Nat => (r6O (p.ct (p.v (t.at_ + 1))) p.s p.g p.n y' (ad0 p)).with_ (v = ptr y')), Ass.blk y 71 [i64 p.tt, i64 (p.s : Int), i64 p.g, i64 p.lm, i64 p.r, i64 (p.K : Int), .slice (some ⟨a.pb, 0, none⟩) p.P.length a.pc, .slice (some ⟨a.lb, 0, none⟩) p.LL.length a.lc, i64 (p.nd : Int), i64 p.n, i64 (p.th : Int), .slice (some ⟨a.hb, 0, none⟩) p.path.length a.hc, i64 (((5 : Nat) : Int)), i64 (((t.at_ + 1 : Nat) : Int)), ptr a.yc, pv, v, i64 (t.live), i64 (t.err), i64 (t.on), .bool false, i64 (t.ond)], rowO 3 1 (.slice (some ⟨a.pb, 0, none⟩) p.P.length a.pc) p.P.length (ints p.P), rowO 3 1 (.slice (some ⟨a.lb, 0, none⟩) p.LL.length a.lc) p.LL.length (ints p.LL), rowO 3 1 (.slice (some ⟨a.hb, 0, none⟩) p.path.length a.hc) p.path.length (ints (nats p.path)), r11O a.C p.K p.th a.yc t.cl, refO B m x.W x.L] _ from by repeat (with_reducible first | exact HS.out | apply Sx.alloc | apply Sx.drewN | apply Sx.drew)) 5 (by simp)) 5 (by simp)) 5 (by simp)) 5 (by simp)) 5 (by simp)) 5 (by simp)) 6 (by simp)))⟩
set_option maxHeartbeats 4000000 in
theorem r12_step5last {ya : Nat} (hp : P12OK p) (ha : t.at_ < p.path.length) (hn : t.cl.n < p.K) (hf : t.cl.fin = 1) (hai : AInv (p.ct (p.v t.at_)) p.s p.g p.n t.a) (hsp : t.ad.sp ≤ 2000) (hL : t.L.length ≤ 1000000000) (h9 : (aNext (p.ct (p.v t.at_)) p.s p.g p.n t.a).st = 9) (hl : t.at_ + 1 = p.path.length) (h : (stars (refO B m t.W t.L :: [Ass.blk y 71 [i64 p.tt, i64 (p.s : Int), i64 p.g, i64 p.lm, i64 p.r, i64 (p.K : Int), .slice (some ⟨a.pb, 0, none⟩) p.P.length a.pc, .slice (some ⟨a.lb, 0, none⟩) p.LL.length a.lc, i64 (p.nd : Int), i64 p.n, i64 (p.th : Int), .slice (some ⟨a.hb, 0, none⟩) p.path.length a.hc, i64 (((5 : Nat) : Int)), i64 ((t.at_ : Nat)), ptr a.yc, pv, ptr ya, i64 (t.live), i64 (t.err), i64 (t.on), .bool false, i64 (t.ond)], rowO 3 1 (.slice (some ⟨a.pb, 0, none⟩) p.P.length a.pc) p.P.length (ints p.P), rowO 3 1 (.slice (some ⟨a.lb, 0, none⟩) p.LL.length a.lc) p.LL.length (ints p.LL), rowO 3 1 (.slice (some ⟨a.hb, 0, none⟩) p.path.length a.hc) p.path.length (ints (nats p.path)), r11O a.C p.K p.th a.yc t.cl, r6O (p.ct (p.v t.at_)) p.s p.g p.n ya t.ad])).At R w) :
 Calls Try.prog 37 #[ptr y, ptr m] w fun e w' => e = .returned (.bool true) ∧ Tr (stars ((refO B m (aNext (p.ct (p.v t.at_)) p.s p.g p.n t.a).W (aNext (p.ct (p.v t.at_)) p.s p.g p.n t.a).L) :: [Ass.blk y 71 [i64 p.tt, i64 (p.s : Int), i64 p.g, i64 p.lm, i64 p.r, i64 (p.K : Int), .slice (some ⟨a.pb, 0, none⟩) p.P.length a.pc, .slice (some ⟨a.lb, 0, none⟩) p.LL.length a.lc, i64 (p.nd : Int), i64 p.n, i64 (p.th : Int), .slice (some ⟨a.hb, 0, none⟩) p.path.length a.hc, i64 (6), i64 (((t.at_ + 1 : Nat) : Int)), ptr a.yc, pv, ptr ya, i64 (t.live), i64 (0), i64 (hd16 t.cl.n t.live), .bool false, i64 (0)], rowO 3 1 (.slice (some ⟨a.pb, 0, none⟩) p.P.length a.pc) p.P.length (ints p.P), rowO 3 1 (.slice (some ⟨a.lb, 0, none⟩) p.LL.length a.lc) p.LL.length (ints p.LL), rowO 3 1 (.slice (some ⟨a.hb, 0, none⟩) p.path.length a.hc) p.path.length (ints (nats p.path)), r11O a.C p.K p.th a.yc t.cl])) R w w' := by
 obtain ⟨w0, hw0⟩ : ∃ v, v = w := ⟨_, rfl⟩
 rw [← hw0] at h ⊢
 have HS := hid (show Sx R w0 [refO B m t.W t.L, Ass.blk y 71 [i64 p.tt, i64 (p.s : Int), i64 p.g, i64 p.lm, i64 p.r, i64 (p.K : Int), .slice (some ⟨a.pb, 0, none⟩) p.P.length a.pc, .slice (some ⟨a.lb, 0, none⟩) p.LL.length a.lc, i64 (p.nd : Int), i64 p.n, i64 (p.th : Int), .slice (some ⟨a.hb, 0, none⟩) p.path.length a.hc, i64 (((5 : Nat) : Int)), i64 ((t.at_ : Nat)), ptr a.yc, pv, ptr ya, i64 (t.live), i64 (t.err), i64 (t.on), .bool false, i64 (t.ond)], rowO 3 1 (.slice (some ⟨a.pb, 0, none⟩) p.P.length a.pc) p.P.length (ints p.P), rowO 3 1 (.slice (some ⟨a.lb, 0, none⟩) p.LL.length a.lc) p.LL.length (ints p.LL), rowO 3 1 (.slice (some ⟨a.hb, 0, none⟩) p.path.length a.hc) p.path.length (ints (nats p.path)), r11O a.C p.K p.th a.yc t.cl, r6O (p.ct (p.v t.at_)) p.s p.g p.n ya t.ad] w0 from Sx.start h)
 clear h hw0
 obtain ⟨x, hx⟩ : ∃ x, x = aNext (p.ct (p.v t.at_)) p.s p.g p.n t.a := ⟨_, rfl⟩
 rw [← hx] at h9 ⊢
 have HXN := hid hx
 clear hx
 have hctb := hp.ct_lt (hp.v1 ha)
 have hq264 := hp.q264
 have hs8 := hp.s8
 have hp1 := hp.p1
 have hk1 := hp.k1
 obtain ⟨ae, hae⟩ : ∃ ae : Int, ae = (if t.cl.fin = 2 then 3 else 0) := ⟨_, rfl⟩
 have HAE := hid hae
 clear hae
 have htk0 := fun w' => ref_Ticket p.tt p.s p.g p.lm p.r p.K (some ⟨a.pb, 0, none⟩) p.P.length a.pc (some ⟨a.lb, 0, none⟩) p.LL.length a.lc (t.cl.n : Int) w' (by omega) (by omega) (by omega) (by omega) (by omega)
 rw [show (p.P.length : Int) * (6 + 2 * (p.s : Int)) + 2 * (t.cl.n : Int) = ((t.tk p : Nat) : Int) from by unfold S12.tk P12.q; push_cast; rfl] at htk0
 have HTK := hid htk0
 clear htk0
 go_enter Try.func37, Try.ntmps37
 go_upto_region 1 with fail
 apply wp_region_text (WI := fun S wx => Keep0 w0 wx) (by kernel_rfl) (by kernel_rfl)
 case hob =>
  iterate 8
   apply Oblig.cons
   case h =>
    intro S w1 hwi hSi hd hcl
    apply StepOk.intro
    intro K hK
    obtain ⟨_, ⟨hb, _⟩, _⟩ := Sx.get (Sx.pick (Sx.keep HS.out hwi) 1 (by simp))
    have qy := hb.k22
    clear hb
    obtain ⟨_, ⟨hcl, _⟩, _⟩ := Sx.get (Sx.pick (Sx.keep HS.out hwi) 5 (by simp))
    go_simp
    apply hK
    · rfl
    · conv => (lhs; whnf)
    · exact hwi
   simp only [put_lit, put_none]
   try dsimp only [List.set_cons_succ, List.set_cons_zero]
  apply Oblig.cons
  case h =>
   intro S w1 hwi hSi hd hcl
   apply StepOk.intro
   intro K hK
   obtain ⟨_, ⟨hb, _⟩, _⟩ := Sx.get (Sx.pick (Sx.keep HS.out hwi) 1 (by simp))
   have qy := hb.k22
   clear hb
   obtain ⟨_, ⟨hcl, _⟩, _⟩ := Sx.get (Sx.pick (Sx.keep HS.out hwi) 5 (by simp))
   go_simp
   refine (show Calls Try.prog 52 _ w1 (Ret (.agg #[i64 ae, i64 (t.cl.n : Int), .bool false, i64 0]) w1) from by have h := r11_Ans t.cl hcl; unfold clAns at h; rw [← HAE.out] at h; exact h).mono ?_
   rintro e w2 ⟨rfl, hk⟩
   apply hK
   · rfl
   · conv => (lhs; whnf)
   · exact Keep0.step hwi hk
  simp only [put_lit, put_none]
  try dsimp only [List.set_cons_succ, List.set_cons_zero]
  apply Oblig.cons
  case h =>
   intro S w1 hwi hSi hd hcl
   apply StepOk.intro
   intro K hK
   obtain ⟨_, ⟨hb, _⟩, _⟩ := Sx.get (Sx.pick (Sx.keep HS.out hwi) 1 (by simp))
   have qy := hb.k22
   clear hb
   obtain ⟨_, ⟨hcl, _⟩, _⟩ := Sx.get (Sx.pick (Sx.keep HS.out hwi) 5 (by simp))
   go_simp
   apply hK
   · rfl
   · conv => (lhs; whnf)
   · exact hwi
  simp only [put_lit, put_none]
  try dsimp only [List.set_cons_succ, List.set_cons_zero]
  apply Oblig.cons
  case h =>
   intro S w1 hwi hSi hd hcl
   apply StepOk.intro
   intro K hK
   go_simp
   refine (HTK.out _).mono ?_
   rintro e w2 ⟨rfl, hk⟩
   apply hK
   · rfl
   · conv => (lhs; whnf)
   · exact Keep0.step hwi hk
  simp only [put_lit, put_none]
  try dsimp only [List.set_cons_succ, List.set_cons_zero]
  apply Oblig.cons
  case h =>
   intro S w1 hwi hSi hd hcl
   apply StepOk.intro
   intro K hK
   obtain ⟨_, ⟨hb, _⟩, _⟩ := Sx.get (Sx.pick (Sx.keep HS.out hwi) 1 (by simp))
   have qy := hb.k22
   clear hb
   obtain ⟨_, ⟨hcl, _⟩, _⟩ := Sx.get (Sx.pick (Sx.keep HS.out hwi) 5 (by simp))
   go_simp
   apply hK
   · rfl
   · conv => (lhs; whnf)
   · exact hwi
  simp only [put_lit, put_none]
  try dsimp only [List.set_cons_succ, List.set_cons_zero]
  exact Oblig.nil
 case h0 =>
  exact (Keep.refl _ _).drew
 case hend =>
  intro S wx hwi hall
  have hkx := hwi
  obtain ⟨w1, hwn⟩ : ∃ v, v = wx := ⟨_, rfl⟩
  rw [← hwn] at hkx ⊢
  have hs := hid (show Sx R w0 [refO B m t.W t.L, Ass.blk y 71 [i64 p.tt, i64 (p.s : Int), i64 p.g, i64 p.lm, i64 p.r, i64 (p.K : Int), .slice (some ⟨a.pb, 0, none⟩) p.P.length a.pc, .slice (some ⟨a.lb, 0, none⟩) p.LL.length a.lc, i64 (p.nd : Int), i64 p.n, i64 (p.th : Int), .slice (some ⟨a.hb, 0, none⟩) p.path.length a.hc, i64 (((5 : Nat) : Int)), i64 ((t.at_ : Nat)), ptr a.yc, pv, ptr ya, i64 (t.live), i64 (t.err), i64 (t.on), .bool false, i64 (t.ond)], rowO 3 1 (.slice (some ⟨a.pb, 0, none⟩) p.P.length a.pc) p.P.length (ints p.P), rowO 3 1 (.slice (some ⟨a.lb, 0, none⟩) p.LL.length a.lc) p.LL.length (ints p.LL), rowO 3 1 (.slice (some ⟨a.hb, 0, none⟩) p.path.length a.hc) p.path.length (ints (nats p.path)), r11O a.C p.K p.th a.yc t.cl, r6O (p.ct (p.v t.at_)) p.s p.g p.n ya t.ad] w1 from Sx.keep HS.out hkx)
  clear hwi hall hkx hwn HS
  have HS := hs
  clear hs
  obtain ⟨_, ⟨hb, _⟩, _⟩ := Sx.get (show Sx R w0 [Ass.blk y 71 [i64 p.tt, i64 (p.s : Int), i64 p.g, i64 p.lm, i64 p.r, i64 (p.K : Int), .slice (some ⟨a.pb, 0, none⟩) p.P.length a.pc, .slice (some ⟨a.lb, 0, none⟩) p.LL.length a.lc, i64 (p.nd : Int), i64 p.n, i64 (p.th : Int), .slice (some ⟨a.hb, 0, none⟩) p.path.length a.hc, i64 (((5 : Nat) : Int)), i64 ((t.at_ : Nat)), ptr a.yc, pv, ptr ya, i64 (t.live), i64 (t.err), i64 (t.on), .bool false, i64 (t.ond)], refO B m t.W t.L, rowO 3 1 (.slice (some ⟨a.pb, 0, none⟩) p.P.length a.pc) p.P.length (ints p.P), rowO 3 1 (.slice (some ⟨a.lb, 0, none⟩) p.LL.length a.lc) p.LL.length (ints p.LL), rowO 3 1 (.slice (some ⟨a.hb, 0, none⟩) p.path.length a.hc) p.path.length (ints (nats p.path)), r11O a.C p.K p.th a.yc t.cl, r6O (p.ct (p.v t.at_)) p.s p.g p.n ya t.ad] w1 from (Sx.pick (show Sx R w0 [refO B m t.W t.L, Ass.blk y 71 [i64 p.tt, i64 (p.s : Int), i64 p.g, i64 p.lm, i64 p.r, i64 (p.K : Int), .slice (some ⟨a.pb, 0, none⟩) p.P.length a.pc, .slice (some ⟨a.lb, 0, none⟩) p.LL.length a.lc, i64 (p.nd : Int), i64 p.n, i64 (p.th : Int), .slice (some ⟨a.hb, 0, none⟩) p.path.length a.hc, i64 (((5 : Nat) : Int)), i64 ((t.at_ : Nat)), ptr a.yc, pv, ptr ya, i64 (t.live), i64 (t.err), i64 (t.on), .bool false, i64 (t.ond)], rowO 3 1 (.slice (some ⟨a.pb, 0, none⟩) p.P.length a.pc) p.P.length (ints p.P), rowO 3 1 (.slice (some ⟨a.lb, 0, none⟩) p.LL.length a.lc) p.LL.length (ints p.LL), rowO 3 1 (.slice (some ⟨a.hb, 0, none⟩) p.path.length a.hc) p.path.length (ints (nats p.path)), r11O a.C p.K p.th a.yc t.cl, r6O (p.ct (p.v t.at_)) p.s p.g p.n ya t.ad] w1 from by repeat (with_reducible first | exact HS.out | apply Sx.alloc | apply Sx.drewN | apply Sx.drew)) 1 (by simp)))
  have qy := hb.k22
  clear hb
  go_wp2_with fail
  refine Calls.mono (Sx.call (q := Ass.star (refO B m x.W x.L) (r6O (p.ct (p.v t.at_)) p.s p.g p.n ya x)) (Sx.pair (show Sx R w0 [refO B m t.W t.L, r6O (p.ct (p.v t.at_)) p.s p.g p.n ya t.ad, Ass.blk y 71 [i64 p.tt, i64 (p.s : Int), i64 p.g, i64 p.lm, i64 p.r, i64 (p.K : Int), .slice (some ⟨a.pb, 0, none⟩) p.P.length a.pc, .slice (some ⟨a.lb, 0, none⟩) p.LL.length a.lc, i64 (p.nd : Int), i64 p.n, i64 (p.th : Int), .slice (some ⟨a.hb, 0, none⟩) p.path.length a.hc, i64 (((5 : Nat) : Int)), i64 ((t.at_ : Nat)), ptr a.yc, pv, ptr ya, i64 (t.live), i64 (t.err), i64 (t.on), .bool false, i64 (t.ond)], rowO 3 1 (.slice (some ⟨a.pb, 0, none⟩) p.P.length a.pc) p.P.length (ints p.P), rowO 3 1 (.slice (some ⟨a.lb, 0, none⟩) p.LL.length a.lc) p.LL.length (ints p.LL), rowO 3 1 (.slice (some ⟨a.hb, 0, none⟩) p.path.length a.hc) p.path.length (ints (nats p.path)), r11O a.C p.K p.th a.yc t.cl] _ from (Sx.pick (Sx.pick (show Sx R w0 [refO B m t.W t.L, Ass.blk y 71 [i64 p.tt, i64 (p.s : Int), i64 p.g, i64 p.lm, i64 p.r, i64 (p.K : Int), .slice (some ⟨a.pb, 0, none⟩) p.P.length a.pc, .slice (some ⟨a.lb, 0, none⟩) p.LL.length a.lc, i64 (p.nd : Int), i64 p.n, i64 (p.th : Int), .slice (some ⟨a.hb, 0, none⟩) p.path.length a.hc, i64 (((5 : Nat) : Int)), i64 ((t.at_ : Nat)), ptr a.yc, pv, ptr ya, i64 (t.live), i64 (t.err), i64 (t.on), .bool false, i64 (t.ond)], rowO 3 1 (.slice (some ⟨a.pb, 0, none⟩) p.P.length a.pc) p.P.length (ints p.P), rowO 3 1 (.slice (some ⟨a.lb, 0, none⟩) p.LL.length a.lc) p.LL.length (ints p.LL), rowO 3 1 (.slice (some ⟨a.hb, 0, none⟩) p.path.length a.hc) p.path.length (ints (nats p.path)), r11O a.C p.K p.th a.yc t.cl, r6O (p.ct (p.v t.at_)) p.s p.g p.n ya t.ad] _ from by repeat (with_reducible first | exact HS.out | apply Sx.alloc | apply Sx.drewN | apply Sx.drew)) 6 (by simp)) 1 (by simp)))) (fun Rq hr hz => (show Calls Try.prog 63 _ _ (fun e w' => e = .returned (.bool (decide (x.st = 9))) ∧ Tr _ Rq _ w') from by rw [HXN.out]; exact r6O_Step (t := t.a) hr hai (by omega) hsp hL))) ?_
  rintro e w2 ⟨rfl, hs⟩
  clear HS
  have HS := hid (show Sx R w0 [refO B m x.W x.L, r6O (p.ct (p.v t.at_)) p.s p.g p.n ya x, Ass.blk y 71 [i64 p.tt, i64 (p.s : Int), i64 p.g, i64 p.lm, i64 p.r, i64 (p.K : Int), .slice (some ⟨a.pb, 0, none⟩) p.P.length a.pc, .slice (some ⟨a.lb, 0, none⟩) p.LL.length a.lc, i64 (p.nd : Int), i64 p.n, i64 (p.th : Int), .slice (some ⟨a.hb, 0, none⟩) p.path.length a.hc, i64 (((5 : Nat) : Int)), i64 ((t.at_ : Nat)), ptr a.yc, pv, ptr ya, i64 (t.live), i64 (t.err), i64 (t.on), .bool false, i64 (t.ond)], rowO 3 1 (.slice (some ⟨a.pb, 0, none⟩) p.P.length a.pc) p.P.length (ints p.P), rowO 3 1 (.slice (some ⟨a.lb, 0, none⟩) p.LL.length a.lc) p.LL.length (ints p.LL), rowO 3 1 (.slice (some ⟨a.hb, 0, none⟩) p.path.length a.hc) p.path.length (ints (nats p.path)), r11O a.C p.K p.th a.yc t.cl] w2 from Sx.part hs)
  clear hs
  clear qy
  obtain ⟨_, ⟨hb, _⟩, _⟩ := Sx.get (show Sx R w0 [Ass.blk y 71 [i64 p.tt, i64 (p.s : Int), i64 p.g, i64 p.lm, i64 p.r, i64 (p.K : Int), .slice (some ⟨a.pb, 0, none⟩) p.P.length a.pc, .slice (some ⟨a.lb, 0, none⟩) p.LL.length a.lc, i64 (p.nd : Int), i64 p.n, i64 (p.th : Int), .slice (some ⟨a.hb, 0, none⟩) p.path.length a.hc, i64 (((5 : Nat) : Int)), i64 ((t.at_ : Nat)), ptr a.yc, pv, ptr ya, i64 (t.live), i64 (t.err), i64 (t.on), .bool false, i64 (t.ond)], refO B m x.W x.L, r6O (p.ct (p.v t.at_)) p.s p.g p.n ya x, rowO 3 1 (.slice (some ⟨a.pb, 0, none⟩) p.P.length a.pc) p.P.length (ints p.P), rowO 3 1 (.slice (some ⟨a.lb, 0, none⟩) p.LL.length a.lc) p.LL.length (ints p.LL), rowO 3 1 (.slice (some ⟨a.hb, 0, none⟩) p.path.length a.hc) p.path.length (ints (nats p.path)), r11O a.C p.K p.th a.yc t.cl] w2 from (Sx.pick (show Sx R w0 [refO B m x.W x.L, r6O (p.ct (p.v t.at_)) p.s p.g p.n ya x, Ass.blk y 71 [i64 p.tt, i64 (p.s : Int), i64 p.g, i64 p.lm, i64 p.r, i64 (p.K : Int), .slice (some ⟨a.pb, 0, none⟩) p.P.length a.pc, .slice (some ⟨a.lb, 0, none⟩) p.LL.length a.lc, i64 (p.nd : Int), i64 p.n, i64 (p.th : Int), .slice (some ⟨a.hb, 0, none⟩) p.path.length a.hc, i64 (((5 : Nat) : Int)), i64 ((t.at_ : Nat)), ptr a.yc, pv, ptr ya, i64 (t.live), i64 (t.err), i64 (t.on), .bool false, i64 (t.ond)], rowO 3 1 (.slice (some ⟨a.pb, 0, none⟩) p.P.length a.pc) p.P.length (ints p.P), rowO 3 1 (.slice (some ⟨a.lb, 0, none⟩) p.LL.length a.lc) p.LL.length (ints p.LL), rowO 3 1 (.slice (some ⟨a.hb, 0, none⟩) p.path.length a.hc) p.path.length (ints (nats p.path)), r11O a.C p.K p.th a.yc t.cl] w2 from by repeat (with_reducible first | exact HS.out | apply Sx.alloc | apply Sx.drewN | apply Sx.drew)) 2 (by simp)))
  have qy := hb.k22
  clear hb
  have g1 : decide (x.st = 9) = true := by simp [h9]
  rw [g1]
  clear g1
  go_wp2_with fail
  have hs := Sx.drop (show Sx R w0 [r6O (p.ct (p.v t.at_)) p.s p.g p.n ya x, refO B m x.W x.L, Ass.blk y 71 [i64 p.tt, i64 (p.s : Int), i64 p.g, i64 p.lm, i64 p.r, i64 (p.K : Int), .slice (some ⟨a.pb, 0, none⟩) p.P.length a.pc, .slice (some ⟨a.lb, 0, none⟩) p.LL.length a.lc, i64 (p.nd : Int), i64 p.n, i64 (p.th : Int), .slice (some ⟨a.hb, 0, none⟩) p.path.length a.hc, i64 (((5 : Nat) : Int)), i64 ((t.at_ : Nat)), ptr a.yc, pv, ptr ya, i64 (t.live), i64 (t.err), i64 (t.on), .bool false, i64 (t.ond)], rowO 3 1 (.slice (some ⟨a.pb, 0, none⟩) p.P.length a.pc) p.P.length (ints p.P), rowO 3 1 (.slice (some ⟨a.lb, 0, none⟩) p.LL.length a.lc) p.LL.length (ints p.LL), rowO 3 1 (.slice (some ⟨a.hb, 0, none⟩) p.path.length a.hc) p.path.length (ints (nats p.path)), r11O a.C p.K p.th a.yc t.cl] w2 from (Sx.pick (show Sx R w0 [refO B m x.W x.L, r6O (p.ct (p.v t.at_)) p.s p.g p.n ya x, Ass.blk y 71 [i64 p.tt, i64 (p.s : Int), i64 p.g, i64 p.lm, i64 p.r, i64 (p.K : Int), .slice (some ⟨a.pb, 0, none⟩) p.P.length a.pc, .slice (some ⟨a.lb, 0, none⟩) p.LL.length a.lc, i64 (p.nd : Int), i64 p.n, i64 (p.th : Int), .slice (some ⟨a.hb, 0, none⟩) p.path.length a.hc, i64 (((5 : Nat) : Int)), i64 ((t.at_ : Nat)), ptr a.yc, pv, ptr ya, i64 (t.live), i64 (t.err), i64 (t.on), .bool false, i64 (t.ond)], rowO 3 1 (.slice (some ⟨a.pb, 0, none⟩) p.P.length a.pc) p.P.length (ints p.P), rowO 3 1 (.slice (some ⟨a.lb, 0, none⟩) p.LL.length a.lc) p.LL.length (ints p.LL), rowO 3 1 (.slice (some ⟨a.hb, 0, none⟩) p.path.length a.hc) p.path.length (ints (nats p.path)), r11O a.C p.K p.th a.yc t.cl] w2 from by repeat (with_reducible first | exact HS.out | apply Sx.alloc | apply Sx.drewN | apply Sx.drew)) 1 (by simp)))
  clear HS
  have HS := hid hs
  clear hs
  have hs := hid (show Sx R w0 [Ass.blk y 71 [i64 p.tt, i64 (p.s : Int), i64 p.g, i64 p.lm, i64 p.r, i64 (p.K : Int), .slice (some ⟨a.pb, 0, none⟩) p.P.length a.pc, .slice (some ⟨a.lb, 0, none⟩) p.LL.length a.lc, i64 (p.nd : Int), i64 p.n, i64 (p.th : Int), .slice (some ⟨a.hb, 0, none⟩) p.path.length a.hc, i64 (((5 : Nat) : Int)), i64 ((t.at_ : Nat)), ptr a.yc, pv, ptr ya, i64 (t.live), i64 (t.err), i64 (t.on), .bool false, i64 (t.ond)], rowO 3 1 (.slice (some ⟨a.pb, 0, none⟩) p.P.length a.pc) p.P.length (ints p.P), rowO 3 1 (.slice (some ⟨a.lb, 0, none⟩) p.LL.length a.lc) p.LL.length (ints p.LL), rowO 3 1 (.slice (some ⟨a.hb, 0, none⟩) p.path.length a.hc) p.path.length (ints (nats p.path)), r11O a.C p.K p.th a.yc t.cl, refO B m x.W x.L] w2 from (Sx.pick (Sx.pick (Sx.pick (Sx.pick (Sx.pick (show Sx R w0 [refO B m x.W x.L, Ass.blk y 71 [i64 p.tt, i64 (p.s : Int), i64 p.g, i64 p.lm, i64 p.r, i64 (p.K : Int), .slice (some ⟨a.pb, 0, none⟩) p.P.length a.pc, .slice (some ⟨a.lb, 0, none⟩) p.LL.length a.lc, i64 (p.nd : Int), i64 p.n, i64 (p.th : Int), .slice (some ⟨a.hb, 0, none⟩) p.path.length a.hc, i64 (((5 : Nat) : Int)), i64 ((t.at_ : Nat)), ptr a.yc, pv, ptr ya, i64 (t.live), i64 (t.err), i64 (t.on), .bool false, i64 (t.ond)], rowO 3 1 (.slice (some ⟨a.pb, 0, none⟩) p.P.length a.pc) p.P.length (ints p.P), rowO 3 1 (.slice (some ⟨a.lb, 0, none⟩) p.LL.length a.lc) p.LL.length (ints p.LL), rowO 3 1 (.slice (some ⟨a.hb, 0, none⟩) p.path.length a.hc) p.path.length (ints (nats p.path)), r11O a.C p.K p.th a.yc t.cl] w2 from by repeat (with_reducible first | exact HS.out | apply Sx.alloc | apply Sx.drewN | apply Sx.drew)) 5 (by simp)) 5 (by simp)) 5 (by simp)) 5 (by simp)) 5 (by simp)))
  clear HS
  have HS := hs
  clear hs
  refine Calls.mono (Sx.call (Sx.group [Ass.blk y 71 [i64 p.tt, i64 (p.s : Int), i64 p.g, i64 p.lm, i64 p.r, i64 (p.K : Int), .slice (some ⟨a.pb, 0, none⟩) p.P.length a.pc, .slice (some ⟨a.lb, 0, none⟩) p.LL.length a.lc, i64 (p.nd : Int), i64 p.n, i64 (p.th : Int), .slice (some ⟨a.hb, 0, none⟩) p.path.length a.hc, i64 (((5 : Nat) : Int)), i64 ((t.at_ : Nat)), ptr a.yc, pv, ptr ya, i64 (t.live), i64 (t.err), i64 (t.on), .bool false, i64 (t.ond)], rowO 3 1 (.slice (some ⟨a.pb, 0, none⟩) p.P.length a.pc) p.P.length (ints p.P), rowO 3 1 (.slice (some ⟨a.lb, 0, none⟩) p.LL.length a.lc) p.LL.length (ints p.LL), rowO 3 1 (.slice (some ⟨a.hb, 0, none⟩) p.path.length a.hc) p.path.length (ints (nats p.path)), r11O a.C p.K p.th a.yc t.cl] (l := [refO B m x.W x.L]) HS.out) (fun Rq hr _ => r12_added_last (t := { t with ph := 5, ad := x }) (pv := pv) (av := ptr ya) hp hl hf (by show t.cl.n < 16; omega) hr)) ?_
  rintro e w3 ⟨rfl, hs⟩
  clear HS
  have HS := hid (show Sx R w0 [Ass.blk y 71 [i64 p.tt, i64 (p.s : Int), i64 p.g, i64 p.lm, i64 p.r, i64 (p.K : Int), .slice (some ⟨a.pb, 0, none⟩) p.P.length a.pc, .slice (some ⟨a.lb, 0, none⟩) p.LL.length a.lc, i64 (p.nd : Int), i64 p.n, i64 (p.th : Int), .slice (some ⟨a.hb, 0, none⟩) p.path.length a.hc, i64 (6), i64 (((t.at_ + 1 : Nat) : Int)), ptr a.yc, pv, ptr ya, i64 (t.live), i64 (0), i64 (hd16 t.cl.n t.live), .bool false, i64 (0)], rowO 3 1 (.slice (some ⟨a.pb, 0, none⟩) p.P.length a.pc) p.P.length (ints p.P), rowO 3 1 (.slice (some ⟨a.lb, 0, none⟩) p.LL.length a.lc) p.LL.length (ints p.LL), rowO 3 1 (.slice (some ⟨a.hb, 0, none⟩) p.path.length a.hc) p.path.length (ints (nats p.path)), r11O a.C p.K p.th a.yc t.cl, refO B m x.W x.L] w3 from Sx.ungroup _ hs)
  clear hs qy
  obtain ⟨_, ⟨hb, _⟩, _⟩ := Sx.get (show Sx R w0 [Ass.blk y 71 [i64 p.tt, i64 (p.s : Int), i64 p.g, i64 p.lm, i64 p.r, i64 (p.K : Int), .slice (some ⟨a.pb, 0, none⟩) p.P.length a.pc, .slice (some ⟨a.lb, 0, none⟩) p.LL.length a.lc, i64 (p.nd : Int), i64 p.n, i64 (p.th : Int), .slice (some ⟨a.hb, 0, none⟩) p.path.length a.hc, i64 (6), i64 (((t.at_ + 1 : Nat) : Int)), ptr a.yc, pv, ptr ya, i64 (t.live), i64 (0), i64 (hd16 t.cl.n t.live), .bool false, i64 (0)], rowO 3 1 (.slice (some ⟨a.pb, 0, none⟩) p.P.length a.pc) p.P.length (ints p.P), rowO 3 1 (.slice (some ⟨a.lb, 0, none⟩) p.LL.length a.lc) p.LL.length (ints p.LL), rowO 3 1 (.slice (some ⟨a.hb, 0, none⟩) p.path.length a.hc) p.path.length (ints (nats p.path)), r11O a.C p.K p.th a.yc t.cl, refO B m x.W x.L] w3 from (show Sx R w0 [Ass.blk y 71 [i64 p.tt, i64 (p.s : Int), i64 p.g, i64 p.lm, i64 p.r, i64 (p.K : Int), .slice (some ⟨a.pb, 0, none⟩) p.P.length a.pc, .slice (some ⟨a.lb, 0, none⟩) p.LL.length a.lc, i64 (p.nd : Int), i64 p.n, i64 (p.th : Int), .slice (some ⟨a.hb, 0, none⟩) p.path.length a.hc, i64 (6), i64 (((t.at_ + 1 : Nat) : Int)), ptr a.yc, pv, ptr ya, i64 (t.live), i64 (0), i64 (hd16 t.cl.n t.live), .bool false, i64 (0)], rowO 3 1 (.slice (some ⟨a.pb, 0, none⟩) p.P.length a.pc) p.P.length (ints p.P), rowO 3 1 (.slice (some ⟨a.lb, 0, none⟩) p.LL.length a.lc) p.LL.length (ints p.LL), rowO 3 1 (.slice (some ⟨a.hb, 0, none⟩) p.path.length a.hc) p.path.length (ints (nats p.path)), r11O a.C p.K p.th a.yc t.cl, refO B m x.W x.L] w3 from by repeat (with_reducible first | exact HS.out | apply Sx.alloc | apply Sx.drewN | apply Sx.drew)))
  have qy := hb.k22
  clear hb
  go_wp2_with fail
  go_ret
  exact ⟨rfl, (show Sx R w0 [refO B m x.W x.L, Ass.blk y 71 [i64 p.tt, i64 (p.s : Int), i64 p.g, i64 p.lm, i64 p.r, i64 (p.K : Int), .slice (some ⟨a.pb, 0, none⟩) p.P.length a.pc, .slice (some ⟨a.lb, 0, none⟩) p.LL.length a.lc, i64 (p.nd : Int), i64 p.n, i64 (p.th : Int), .slice (some ⟨a.hb, 0, none⟩) p.path.length a.hc, i64 (6), i64 (((t.at_ + 1 : Nat) : Int)), ptr a.yc, pv, ptr ya, i64 (t.live), i64 (0), i64 (hd16 t.cl.n t.live), .bool false, i64 (0)], rowO 3 1 (.slice (some ⟨a.pb, 0, none⟩) p.P.length a.pc) p.P.length (ints p.P), rowO 3 1 (.slice (some ⟨a.lb, 0, none⟩) p.LL.length a.lc) p.LL.length (ints p.LL), rowO 3 1 (.slice (some ⟨a.hb, 0, none⟩) p.path.length a.hc) p.path.length (ints (nats p.path)), r11O a.C p.K p.th a.yc t.cl] _ from (Sx.pick (Sx.pick (Sx.pick (Sx.pick (Sx.pick (Sx.pick (show Sx R w0 [Ass.blk y 71 [i64 p.tt, i64 (p.s : Int), i64 p.g, i64 p.lm, i64 p.r, i64 (p.K : Int), .slice (some ⟨a.pb, 0, none⟩) p.P.length a.pc, .slice (some ⟨a.lb, 0, none⟩) p.LL.length a.lc, i64 (p.nd : Int), i64 p.n, i64 (p.th : Int), .slice (some ⟨a.hb, 0, none⟩) p.path.length a.hc, i64 (6), i64 (((t.at_ + 1 : Nat) : Int)), ptr a.yc, pv, ptr ya, i64 (t.live), i64 (0), i64 (hd16 t.cl.n t.live), .bool false, i64 (0)], rowO 3 1 (.slice (some ⟨a.pb, 0, none⟩) p.P.length a.pc) p.P.length (ints p.P), rowO 3 1 (.slice (some ⟨a.lb, 0, none⟩) p.LL.length a.lc) p.LL.length (ints p.LL), rowO 3 1 (.slice (some ⟨a.hb, 0, none⟩) p.path.length a.hc) p.path.length (ints (nats p.path)), r11O a.C p.K p.th a.yc t.cl, refO B m x.W x.L] _ from by repeat (with_reducible first | exact HS.out | apply Sx.alloc | apply Sx.drewN | apply Sx.drew)) 4 (by simp)) 4 (by simp)) 4 (by simp)) 4 (by simp)) 4 (by simp)) 5 (by simp)))⟩
end
end Go.Proofs.Ythaceckccobgeaa

namespace Go.Proofs.Ythaceckccobgeaa
open Go.RowKit
set_option linter.unusedVariables false
set_option linter.unusedSimpArgs false
set_option maxRecDepth 100000
def ex12 (p : P12) (t : S12) (pv av : Value) : List Ass := if t.ph = 1 then [(Ass.ex fun y' : Nat => (r8A p.s p.lm p.K (p.v (t.at_)) p.n p.u y' (t.po)).with_ (pv = ptr y'))] else if t.ph = 5 then [(Ass.ex fun y' : Nat => (r6O (p.ct (p.v (t.at_))) p.s p.g p.n y' (t.ad)).with_ (av = ptr y'))] else []
def r12O (p : P12) (y : Nat) (t : S12) : Ass := Ass.ex fun a : Ad12 => Ass.ex fun pv : Value => Ass.ex fun av : Value => (stars (ex12 p t pv av ++ [Ass.blk y 71 [i64 p.tt, i64 (p.s : Int), i64 p.g, i64 p.lm, i64 p.r, i64 (p.K : Int), .slice (some ⟨a.pb, 0, none⟩) p.P.length a.pc, .slice (some ⟨a.lb, 0, none⟩) p.LL.length a.lc, i64 (p.nd : Int), i64 p.n, i64 (p.th : Int), .slice (some ⟨a.hb, 0, none⟩) p.path.length a.hc, i64 ((t.ph : Nat)), i64 ((t.at_ : Nat)), ptr a.yc, pv, av, i64 (t.live), i64 (t.err), i64 (t.on), .bool false, i64 (t.ond)], rowO 3 1 (.slice (some ⟨a.pb, 0, none⟩) p.P.length a.pc) p.P.length (ints p.P), rowO 3 1 (.slice (some ⟨a.lb, 0, none⟩) p.LL.length a.lc) p.LL.length (ints p.LL), rowO 3 1 (.slice (some ⟨a.hb, 0, none⟩) p.path.length a.hc) p.path.length (ints (nats p.path)), r11O a.C p.K p.th a.yc t.cl])).with_ (COk a.C p.K p.q p.K)
section
variable {B m y : Nat} {p : P12} {R : Nat → Prop} {w w' : World} {X : Int}
theorem fold12 {u : S12} {a : Ad12} {pv av : Value} {l : List Ass} {W : List Int} {L : List Acc} (hex : ex12 p u pv av = l) (hW : u.W = W) (hL : u.L = L) (h : Tr (stars (refO B m W L :: (l ++ [Ass.blk y 71 [i64 p.tt, i64 (p.s : Int), i64 p.g, i64 p.lm, i64 p.r, i64 (p.K : Int), .slice (some ⟨a.pb, 0, none⟩) p.P.length a.pc, .slice (some ⟨a.lb, 0, none⟩) p.LL.length a.lc, i64 (p.nd : Int), i64 p.n, i64 (p.th : Int), .slice (some ⟨a.hb, 0, none⟩) p.path.length a.hc, i64 ((u.ph : Nat)), i64 ((u.at_ : Nat)), ptr a.yc, pv, av, i64 (u.live), i64 (u.err), i64 (u.on), .bool false, i64 (u.ond)], rowO 3 1 (.slice (some ⟨a.pb, 0, none⟩) p.P.length a.pc) p.P.length (ints p.P), rowO 3 1 (.slice (some ⟨a.lb, 0, none⟩) p.LL.length a.lc) p.LL.length (ints p.LL), rowO 3 1 (.slice (some ⟨a.hb, 0, none⟩) p.path.length a.hc) p.path.length (ints (nats p.path)), r11O a.C p.K p.th a.yc u.cl]))) R w w') (hco : COk a.C p.K p.q p.K) :
 Tr ((refO B m u.W u.L).star (r12O p y u)) R w w' := by
 subst hex hW hL
 exact h.mono (fun V hv => star_mono_r hv (fun U hu => ⟨a, pv, av, hu, hco⟩))
set_option maxHeartbeats 4000000 in
theorem r12_Step {t : S12} (hp : P12OK p) (hi : I12 p X t) (hX : X ≤ 4398046511104) (hL : t.L.length ≤ 1000000000) (h : ((refO B m t.W t.L).star (r12O p y t)).At R w) :
 Calls Try.prog 37 #[ptr y, ptr m] w fun e w' => e = .returned (.bool (stp12 p t).2) ∧ Tr ((refO B m (n12 p t).W (n12 p t).L).star (r12O p y (n12 p t))) R w w' := by
 show Calls _ _ _ _ (fun e w' => e = .returned (.bool (decide ((n12 p t).ph = 6))) ∧ _)
 obtain ⟨W, L, ph, at_, cl, po, ad, live, err, on, ond⟩ := t
 obtain ⟨Rm, Ry, hm, ⟨a, pv, av, hs, hco⟩, hd, eU⟩ := h
 have h0 := (show (stars (refO B m W L :: (ex12 p ⟨W, L, ph, at_, cl, po, ad, live, err, on, ond⟩ pv av ++ [Ass.blk y 71 [i64 p.tt, i64 (p.s : Int), i64 p.g, i64 p.lm, i64 p.r, i64 (p.K : Int), .slice (some ⟨a.pb, 0, none⟩) p.P.length a.pc, .slice (some ⟨a.lb, 0, none⟩) p.LL.length a.lc, i64 (p.nd : Int), i64 p.n, i64 (p.th : Int), .slice (some ⟨a.hb, 0, none⟩) p.path.length a.hc, i64 (((S12.mk W L ph at_ cl po ad live err on ond).ph : Nat)), i64 (((S12.mk W L ph at_ cl po ad live err on ond).at_ : Nat)), ptr a.yc, pv, av, i64 ((S12.mk W L ph at_ cl po ad live err on ond).live), i64 ((S12.mk W L ph at_ cl po ad live err on ond).err), i64 ((S12.mk W L ph at_ cl po ad live err on ond).on), .bool false, i64 ((S12.mk W L ph at_ cl po ad live err on ond).ond)], rowO 3 1 (.slice (some ⟨a.pb, 0, none⟩) p.P.length a.pc) p.P.length (ints p.P), rowO 3 1 (.slice (some ⟨a.lb, 0, none⟩) p.LL.length a.lc) p.LL.length (ints p.LL), rowO 3 1 (.slice (some ⟨a.hb, 0, none⟩) p.path.length a.hc) p.path.length (ints (nats p.path)), r11O a.C p.K p.th a.yc cl]))).At R w from ⟨Rm, Ry, hm, hs, hd, eU⟩)
 clear hm hs hd eU
 have hph := hi.ph
 have hq := hp.q264
 have hk := hp.k1
 have hh1 := hp.h1
 have hcn : cl.n < p.K := hi.cn
 have hln : W.length = p.q + 2 * p.K := hi.w.ln
 have hc7 : ph = 0 ∨ ph = 1 ∨ ph = 2 ∨ ph = 3 ∨ ph = 4 ∨ ph = 5 ∨ ph = 6 := by have : ph ≤ 6 := hph; omega
 rcases hc7 with rfl | rfl | rfl | rfl | rfl | rfl | rfl
 · obtain ⟨hci, hfin, hat⟩ := hi.ci rfl
   obtain ⟨he, hod⟩ := hi.z (by simp) (by simp)
   have hon := hi.z2 (by simp)
   simp only at hfin hat he hod hon
   subst hat he hod hon
   have hs := hci.step (s := p.th)
   rw [n12_0 rfl]
   have hfb := hs.fb
   have hf3 : (cNext p.K p.th p.q (S12.mk W L 0 0 cl po ad live 0 0 0).c).fin = 0 ∨ (cNext p.K p.th p.q (S12.mk W L 0 0 cl po ad live 0 0 0).c).fin = 1 ∨ (cNext p.K p.th p.q (S12.mk W L 0 0 cl po ad live 0 0 0).c).fin = 2 := by omega
   rcases hf3 with h3 | h3 | h3
   · refine (r12_step0go (t := S12.mk W L 0 0 cl po ad live 0 0 0) hp (by show 0 < _; omega) hcn hci hco hp.t1 hL h3 h0).mono ?_
     rintro e w' ⟨rfl, ht⟩
     unfold claimed12
     rw [if_pos h3]
     exact ⟨rfl, fold12 (l := []) rfl rfl rfl ht hco⟩
   · refine (r12_step0yes (t := S12.mk W L 0 0 cl po ad live 0 0 0) hp (by show 0 < _; omega) hcn hci hco hp.t1 hL h3 h0).mono ?_
     rintro e w' ⟨v, rfl, ht⟩
     unfold claimed12
     rw [if_neg (by simp only; omega), if_neg (by simp only; omega)]
     exact ⟨rfl, fold12 (l := [(Ass.ex fun y' : Nat => (r8A p.s p.lm p.K (p.v (0)) p.n p.u y' (po0)).with_ (v = ptr y'))]) rfl rfl rfl ht hco⟩
   · refine (r12_step0no (t := S12.mk W L 0 0 cl po ad live 0 0 0) hp (by show 0 < _; omega) hcn hci hco hp.t1 hL h3 (hs.z2 h3).2 h0).mono ?_
     rintro e w' ⟨rfl, ht⟩
     unfold claimed12
     rw [if_neg (by simp only; omega), if_pos h3]
     exact ⟨rfl, fold12 (l := []) rfl rfl rfl ht hco⟩
 · obtain ⟨ha, hpi, h7⟩ := hi.pi rfl
   obtain ⟨he, hod⟩ := hi.z (by simp) (by simp)
   have hon := hi.z2 (by simp)
   simp only at ha he hod hon
   subst he hod hon
   have hs := hpi.step
   have hsx := hs.nx
   obtain ⟨R1, R2, h1, ⟨R3, R4, ⟨yp, h3, rfl⟩, h4, h5, h6⟩, h7', h8⟩ := h0
   have h0 := stars_perm (List.Perm.cons (refO B m W L) (List.perm_append_comm (l₁ := [r8A p.s p.lm p.K (p.v at_) p.n p.u yp po]) (l₂ := [Ass.blk y 71 [i64 p.tt, i64 (p.s : Int), i64 p.g, i64 p.lm, i64 p.r, i64 (p.K : Int), .slice (some ⟨a.pb, 0, none⟩) p.P.length a.pc, .slice (some ⟨a.lb, 0, none⟩) p.LL.length a.lc, i64 (p.nd : Int), i64 p.n, i64 (p.th : Int), .slice (some ⟨a.hb, 0, none⟩) p.path.length a.hc, i64 (((S12.mk W L 1 at_ cl po ad live 0 0 0).ph : Nat)), i64 (((S12.mk W L 1 at_ cl po ad live 0 0 0).at_ : Nat)), ptr a.yc, ptr yp, av, i64 ((S12.mk W L 1 at_ cl po ad live 0 0 0).live), i64 ((S12.mk W L 1 at_ cl po ad live 0 0 0).err), i64 ((S12.mk W L 1 at_ cl po ad live 0 0 0).on), .bool false, i64 ((S12.mk W L 1 at_ cl po ad live 0 0 0).ond)], rowO 3 1 (.slice (some ⟨a.pb, 0, none⟩) p.P.length a.pc) p.P.length (ints p.P), rowO 3 1 (.slice (some ⟨a.lb, 0, none⟩) p.LL.length a.lc) p.LL.length (ints p.LL), rowO 3 1 (.slice (some ⟨a.hb, 0, none⟩) p.path.length a.hc) p.path.length (ints (nats p.path)), r11O a.C p.K p.th a.yc cl]))) R (show (stars (refO B m W L :: r8A p.s p.lm p.K (p.v at_) p.n p.u yp po :: [Ass.blk y 71 [i64 p.tt, i64 (p.s : Int), i64 p.g, i64 p.lm, i64 p.r, i64 (p.K : Int), .slice (some ⟨a.pb, 0, none⟩) p.P.length a.pc, .slice (some ⟨a.lb, 0, none⟩) p.LL.length a.lc, i64 (p.nd : Int), i64 p.n, i64 (p.th : Int), .slice (some ⟨a.hb, 0, none⟩) p.path.length a.hc, i64 (((S12.mk W L 1 at_ cl po ad live 0 0 0).ph : Nat)), i64 (((S12.mk W L 1 at_ cl po ad live 0 0 0).at_ : Nat)), ptr a.yc, ptr yp, av, i64 ((S12.mk W L 1 at_ cl po ad live 0 0 0).live), i64 ((S12.mk W L 1 at_ cl po ad live 0 0 0).err), i64 ((S12.mk W L 1 at_ cl po ad live 0 0 0).on), .bool false, i64 ((S12.mk W L 1 at_ cl po ad live 0 0 0).ond)], rowO 3 1 (.slice (some ⟨a.pb, 0, none⟩) p.P.length a.pc) p.P.length (ints p.P), rowO 3 1 (.slice (some ⟨a.lb, 0, none⟩) p.LL.length a.lc) p.LL.length (ints p.LL), rowO 3 1 (.slice (some ⟨a.hb, 0, none⟩) p.path.length a.hc) p.path.length (ints (nats p.path)), r11O a.C p.K p.th a.yc cl])).At R w from ⟨R1, R2, h1, ⟨R3, R4, h3, h4, h5, h6⟩, h7', h8⟩)
   rw [n12_1 rfl]
   have hW4 : W.length ≤ 1000000 := by omega
   by_cases h77 : (pNext (p.av (p.v at_)) (p.le (p.v at_) p.u) p.n p.lm (S12.mk W L 1 at_ cl po ad live 0 0 0).pl).next = 7
   · cases hb : (pNext (p.av (p.v at_)) (p.le (p.v at_) p.u) p.n p.lm (S12.mk W L 1 at_ cl po ad live 0 0 0).pl).bad with
     | true =>
      refine (r12_step1bad (t := S12.mk W L 1 at_ cl po ad live 0 0 0) hp ha hcn hpi hX hW4 hL h77 hb h0).mono ?_
      rintro e w' ⟨rfl, ht⟩
      unfold pooled12
      rw [if_neg (fun h => h h77), if_pos hb]
      exact ⟨rfl, fold12 (l := []) rfl rfl rfl ht hco⟩
     | false =>
      by_cases hl : at_ + 1 = p.path.length
      · refine (r12_step1last (t := S12.mk W L 1 at_ cl po ad live 0 0 0) hp ha hcn hpi hX hW4 hL h77 hb hl h0).mono ?_
        rintro e w' ⟨rfl, ht⟩
        unfold pooled12
        rw [if_neg (fun h => h h77), if_neg (by simp only; rw [hb]; decide), if_pos hl]
        exact ⟨rfl, fold12 (l := []) rfl rfl rfl ht hco⟩
      · refine (r12_step1next (t := S12.mk W L 1 at_ cl po ad live 0 0 0) hp ha hcn hpi hX hW4 hL h77 hb (by show at_ + 1 < _; omega) h0).mono ?_
        rintro e w' ⟨v, rfl, ht⟩
        unfold pooled12
        rw [if_neg (fun h => h h77), if_neg (by simp only; rw [hb]; decide), if_neg hl]
        exact ⟨rfl, fold12 (l := [(Ass.ex fun y' : Nat => (r8A p.s p.lm p.K (p.v (at_ + 1)) p.n p.u y' (po0)).with_ (v = ptr y'))]) rfl rfl rfl ht hco⟩
   · refine (r12_step1go (t := S12.mk W L 1 at_ cl po ad live 0 0 0) hp ha hcn hpi hX hW4 hL h77 h0).mono ?_
     rintro e w' ⟨rfl, ht⟩
     unfold pooled12
     rw [if_pos h77]
     refine ⟨rfl, fold12 (pv := ptr yp) (l := [(Ass.ex fun y' : Nat => (r8A p.s p.lm p.K (p.v (at_)) p.n p.u y' (pNext (p.av (p.v at_)) (p.le (p.v at_) p.u) p.n p.lm (S12.mk W L 1 at_ cl po ad live 0 0 0).pl)).with_ (ptr yp = ptr y'))]) rfl rfl rfl (ht.mono (fun V hv => star_mono_r hv (fun V2 h2 => star_mono_l h2 (fun V3 h3 => ⟨yp, h3, rfl⟩)))) hco⟩
 · have hon := hi.z2 (by simp)
   simp only at hon
   subst hon
   have hat : at_ ≤ p.path.length := hi.at_
   by_cases h00 : 0 < at_
   · rw [n12_2 rfl h00]
     refine (r12_step2 (t := S12.mk W L 2 at_ cl po ad live err 0 ond) hp hcn h00 hat (by show W.length ≤ 10000; omega) (by show _ ≤ W.length; omega) hL h0).mono ?_
     rintro e w' ⟨rfl, ht⟩
     exact ⟨rfl, fold12 (l := []) rfl rfl rfl ht hco⟩
   · obtain rfl : at_ = 0 := by omega
     rw [n12_2z rfl h00]
     refine (r12_step2z (t := S12.mk W L 2 0 cl po ad live err 0 ond) hp hcn (by show p.q + 2 * cl.n < W.length; omega) (by show W.length ≤ 10000; omega) hL h0).mono ?_
     rintro e w' ⟨rfl, ht⟩
     exact ⟨rfl, fold12 (l := []) rfl rfl rfl ht hco⟩
 · rw [n12_3 rfl]
   refine (r12_step3 (t := S12.mk W L 3 at_ cl po ad live err on ond) hp (hi.f (by simp) (by simp)) hcn (by show p.q + 2 * cl.n + 2 ≤ W.length; omega) (by show W.length ≤ 10000; omega) hL h0).mono ?_
   rintro e w' ⟨rfl, ht⟩
   exact ⟨rfl, fold12 (l := []) rfl rfl rfl ht hco⟩
 · rw [n12_4 rfl]
   refine (r12_step4 (t := S12.mk W L 4 at_ cl po ad live err on ond) hp hcn (by show p.q + 2 * cl.n < W.length; omega) (by show W.length ≤ 10000; omega) hL h0).mono ?_
   rintro e w' ⟨v, rfl, ht⟩
   exact ⟨rfl, fold12 (l := [(Ass.ex fun y' : Nat => (r6O (p.ct (p.v (0))) p.s p.g p.n y' (ad0 p)).with_ (v = ptr y'))]) rfl rfl rfl ht hco⟩
 · obtain ⟨ha, hai, h9, hsp⟩ := hi.ai rfl
   obtain ⟨he, hod⟩ := hi.z (by simp) (by simp)
   have hon := hi.z2 (by simp)
   have hf := hi.f (by simp) (by simp)
   simp only at ha he hod hon
   subst he hod hon
   obtain ⟨R1, R2, h1, ⟨R3, R4, ⟨ya, h3, rfl⟩, h4, h5, h6⟩, h7', h8⟩ := h0
   have h0 := stars_perm (List.Perm.cons (refO B m W L) (List.perm_append_comm (l₁ := [r6O (p.ct (p.v at_)) p.s p.g p.n ya ad]) (l₂ := [Ass.blk y 71 [i64 p.tt, i64 (p.s : Int), i64 p.g, i64 p.lm, i64 p.r, i64 (p.K : Int), .slice (some ⟨a.pb, 0, none⟩) p.P.length a.pc, .slice (some ⟨a.lb, 0, none⟩) p.LL.length a.lc, i64 (p.nd : Int), i64 p.n, i64 (p.th : Int), .slice (some ⟨a.hb, 0, none⟩) p.path.length a.hc, i64 (((S12.mk W L 5 at_ cl po ad live 0 0 0).ph : Nat)), i64 (((S12.mk W L 5 at_ cl po ad live 0 0 0).at_ : Nat)), ptr a.yc, pv, ptr ya, i64 ((S12.mk W L 5 at_ cl po ad live 0 0 0).live), i64 ((S12.mk W L 5 at_ cl po ad live 0 0 0).err), i64 ((S12.mk W L 5 at_ cl po ad live 0 0 0).on), .bool false, i64 ((S12.mk W L 5 at_ cl po ad live 0 0 0).ond)], rowO 3 1 (.slice (some ⟨a.pb, 0, none⟩) p.P.length a.pc) p.P.length (ints p.P), rowO 3 1 (.slice (some ⟨a.lb, 0, none⟩) p.LL.length a.lc) p.LL.length (ints p.LL), rowO 3 1 (.slice (some ⟨a.hb, 0, none⟩) p.path.length a.hc) p.path.length (ints (nats p.path)), r11O a.C p.K p.th a.yc cl]))) R (show (stars (refO B m W L :: r6O (p.ct (p.v at_)) p.s p.g p.n ya ad :: [Ass.blk y 71 [i64 p.tt, i64 (p.s : Int), i64 p.g, i64 p.lm, i64 p.r, i64 (p.K : Int), .slice (some ⟨a.pb, 0, none⟩) p.P.length a.pc, .slice (some ⟨a.lb, 0, none⟩) p.LL.length a.lc, i64 (p.nd : Int), i64 p.n, i64 (p.th : Int), .slice (some ⟨a.hb, 0, none⟩) p.path.length a.hc, i64 (((S12.mk W L 5 at_ cl po ad live 0 0 0).ph : Nat)), i64 (((S12.mk W L 5 at_ cl po ad live 0 0 0).at_ : Nat)), ptr a.yc, pv, ptr ya, i64 ((S12.mk W L 5 at_ cl po ad live 0 0 0).live), i64 ((S12.mk W L 5 at_ cl po ad live 0 0 0).err), i64 ((S12.mk W L 5 at_ cl po ad live 0 0 0).on), .bool false, i64 ((S12.mk W L 5 at_ cl po ad live 0 0 0).ond)], rowO 3 1 (.slice (some ⟨a.pb, 0, none⟩) p.P.length a.pc) p.P.length (ints p.P), rowO 3 1 (.slice (some ⟨a.lb, 0, none⟩) p.LL.length a.lc) p.LL.length (ints p.LL), rowO 3 1 (.slice (some ⟨a.hb, 0, none⟩) p.path.length a.hc) p.path.length (ints (nats p.path)), r11O a.C p.K p.th a.yc cl])).At R w from ⟨R1, R2, h1, ⟨R3, R4, h3, h4, h5, h6⟩, h7', h8⟩)
   rw [n12_5 rfl]
   by_cases h99 : (aNext (p.ct (p.v at_)) p.s p.g p.n (S12.mk W L 5 at_ cl po ad live 0 0 0).a).st = 9
   · by_cases hl : at_ + 1 < p.path.length
     · refine (r12_step5more (t := S12.mk W L 5 at_ cl po ad live 0 0 0) hp ha hcn hf hai hsp hL h99 hl h0).mono ?_
       rintro e w' ⟨v, rfl, ht⟩
       unfold added12
       rw [if_neg (fun h => h h99), if_pos hl]
       exact ⟨rfl, fold12 (l := [(Ass.ex fun y' : Nat => (r6O (p.ct (p.v (at_ + 1))) p.s p.g p.n y' (ad0 p)).with_ (v = ptr y'))]) rfl rfl rfl ht hco⟩
     · refine (r12_step5last (t := S12.mk W L 5 at_ cl po ad live 0 0 0) hp ha hcn hf hai hsp hL h99 (by show at_ + 1 = _; omega) h0).mono ?_
       rintro e w' ⟨rfl, ht⟩
       unfold added12
       rw [if_neg (fun h => h h99), if_neg hl]
       exact ⟨rfl, fold12 (l := []) rfl rfl rfl ht hco⟩
   · refine (r12_step5go (t := S12.mk W L 5 at_ cl po ad live 0 0 0) hp ha hcn hf hai hsp hL h99 h0).mono ?_
     rintro e w' ⟨rfl, ht⟩
     unfold added12
     rw [if_pos h99]
     exact ⟨rfl, fold12 (av := ptr ya) (l := [(Ass.ex fun y' : Nat => (r6O (p.ct (p.v (at_))) p.s p.g p.n y' (aNext (p.ct (p.v at_)) p.s p.g p.n (S12.mk W L 5 at_ cl po ad live 0 0 0).a)).with_ (ptr ya = ptr y'))]) rfl rfl rfl (ht.mono (fun V hv => star_mono_r hv (fun V2 h2 => star_mono_l h2 (fun V3 h3 => ⟨ya, h3, rfl⟩)))) hco⟩
 · rw [I12.over rfl]
   refine (r12_step6 (t := S12.mk W L 6 at_ cl po ad live err on ond) hp hcn h0).mono ?_
   rintro e w' ⟨rfl, ht⟩
   exact ⟨rfl, fold12 (l := []) rfl rfl rfl ht hco⟩
end
end Go.Proofs.Ythaceckccobgeaa

namespace Go.Proofs.Ythaceckccobgeaa
open Go.RowKit
set_option linter.unusedVariables false
set_option linter.unusedSimpArgs false
set_option maxRecDepth 100000
theorem with_nw {α : Type} {w w' : World} {x : α} {f : α → Ass} {g : α → Value} {v : Value} (h : Nw (f x) w w') (e : v = g x) : Nw (Ass.ex fun x' : α => (f x').with_ (v = g x')) w w' := by
 obtain ⟨R, h1, h2, h3⟩ := h
 exact ⟨R, ⟨x, h1, e⟩, h2, h3⟩
theorem r11O_New (t s g l r : Int) (K st : Nat) (P L : List Int) (pb po lb lo pc lc : Nat) (w : World) (q : Nat) (hp : P.length ≤ 1000) (hl : L.length ≤ 1000)
 (hP : ∀ i, i < P.length → w.cell? ⟨pb, po + i, none⟩ = some (i64 (rd P i))) (hL : ∀ i, i < L.length → w.cell? ⟨lb, lo + i, none⟩ = some (i64 (rd L i))) (hq : (q : Int) = P.length * (6 + 2 * s)) (hs : 1 ≤ s ∧ s ≤ 8) :
 Calls Try.prog 36 #[.agg #[i64 t, i64 s, i64 g, i64 l, i64 r, i64 (K : Int), .slice (some ⟨pb, po, none⟩) P.length pc, .slice (some ⟨lb, lo, none⟩) L.length lc], i64 (st : Int)] w fun e w' => ∃ x : Nat × CC, e = .returned (ptr x.1) ∧ Nw ((r11O x.2 K st x.1 ⟨[], [], 0, false, 0, 0, 0, 0⟩).with_ (COk x.2 K q K)) w w' := by
 refine (r11_New0 t s g l r K st P L pb po lb lo pc lc w hp hl hP hL).mono ?_
 rintro e w' ⟨y, PA, pc', LA, lc', rfl, hz, hk, hb⟩
 exact ⟨(y, ⟨t, s, g, l, r, PA, P.length, pc', LA, L.length, lc'⟩), rfl, fun k => k = y, ⟨⟨hb [] [], fun k => Iff.rfl⟩, ⟨hq, hs, hp, Nat.le_refl _⟩⟩, hk, fun k h => by subst h; exact hz⟩
def QA (p : P12) (v : Value) : Ass := Ass.ex fun x : Option Addr × Nat × Option Addr × Nat => (stars [rowO 3 1 (.slice x.1 p.P.length x.2.1) p.P.length (ints p.P), rowO 3 1 (.slice x.2.2.1 p.LL.length x.2.2.2) p.LL.length (ints p.LL)]).with_ (v = .agg #[i64 p.tt, i64 (p.s : Int), i64 p.g, i64 p.lm, i64 p.r, i64 (p.K : Int), .slice x.1 p.P.length x.2.1, .slice x.2.2.1 p.LL.length x.2.2.2])
def QB (p : P12) (v : Value) : Ass := Ass.ex fun x : Option Addr × Nat => (rowO 3 1 (.slice x.1 p.path.length x.2) p.path.length (ints (nats p.path))).with_ (v = .slice x.1 p.path.length x.2)
def QC (p : P12) (v : Value) : Ass := Ass.ex fun x : Nat × CC => ((r11O x.2 p.K p.th x.1 ⟨[], [], 0, false, 0, 0, 0, 0⟩).with_ (COk x.2 p.K p.q p.K)).with_ (v = ptr x.1)
def onO (b : Bool) (q : Ass) : Ass := if b then q else Ass.emp
structure NW12 (w0 : World) (b : Nat) (cs : List Value) (qa qb qc : Value → Ass) (qd : Value → Value → Value → Value → Ass) (F : Value → Value → Value → Value) (S : Nat → Bool) (gh : Nat → Value) (wx : World) : Prop where
 st : St w0 [onO (S 1) (qa (gh 1)), onO (S 7) (qb (gh 7)), onO (S 10) (qc (gh 10)), onO (S 12) (qd (gh 1) (gh 7) (gh 10) (gh 12))] wx
 bx : Blk wx b 24 cs
 v11 : S 11 = true → gh 11 = F (gh 1) (gh 7) (gh 10)
 v13 : S 13 = true → gh 13 = gh 12
theorem St.emp {w0 w : World} {l : List Ass} (h : St w0 l w) : St w0 (Ass.emp :: l) w := h.nw ⟨fun _ => False, fun _ h => h, Keep.refl _ _, fun _ h => h.elim⟩
theorem St.put {w0 w w' : World} {l : List Ass} {q : Ass} (h : St w0 l w) (i : Nat) (hi : i < l.length) (hn : Nw q w w') : St w0 (l.set i q) w' := by
 have h1 := (h.pick i hi).drop.nw hn
 refine h1.perm (List.Perm.symm ?_)
 have h2 := pick_perm (l.set i q) i (by simpa using hi)
 simpa [List.eraseIdx_set_eq] using h2
section
variable {w0 wx w' : World} {b : Nat} {cs : List Value} {qa qb qc : Value → Ass} {qd : Value → Value → Value → Value → Ass} {F : Value → Value → Value → Value} {S : Nat → Bool} {gh : Nat → Value}
theorem NW12.k (h : NW12 w0 b cs qa qb qc qd F S gh wx) : Keep0 w0 wx := h.st.k
theorem NW12.start {gh : Nat → Value} (h : Keep0 w0 wx) (hb : Blk wx b 24 cs) : NW12 w0 b cs qa qb qc qd F (fun _ => false) gh wx :=
 ⟨(((((St.nil h).emp).emp).emp).emp), hb, fun h => (by cases h), fun h => (by cases h)⟩
theorem NW12.fixed {i : Nat} (h : NW12 w0 b cs qa qb qc qd F S gh wx) (hi : i ≠ 1 ∧ i ≠ 7 ∧ i ≠ 10 ∧ i ≠ 11 ∧ i ≠ 12 ∧ i ≠ 13) : NW12 w0 b cs qa qb qc qd F (upd S i) gh wx := by
 obtain ⟨h1, h7, h10, h11, h12, h13⟩ := hi
 have e : ∀ j, i ≠ j → upd S i j = S j := fun j hj => by simp [upd, Ne.symm hj]
 exact ⟨by rw [e 1 h1, e 7 h7, e 10 h10, e 12 h12]; exact h.st, h.bx, by rw [e 11 h11]; exact h.v11, by rw [e 13 h13]; exact h.v13⟩
theorem NW12.made1 (h : NW12 w0 b cs qa qb qc qd F S gh wx) (_ : S 1 = false) (h11 : S 11 = false) (h12 : S 12 = false) (v : Value) (hn : Nw (qa v) wx w') : NW12 w0 b cs qa qb qc qd F (upd S 1) (updv gh 1 v) w' := by
 have e : ∀ j, 1 ≠ j → upd S 1 j = S j := fun j hj => by simp [upd, Ne.symm hj]
 have g : ∀ j, 1 ≠ j → updv gh 1 v j = gh j := fun j hj => updv_ne (Ne.symm hj)
 obtain ⟨_, _, hk, _⟩ := id hn
 refine ⟨?_, hk.blk h.bx (fun h => h), by rw [e 11 (by decide), h11]; exact fun h => (by cases h), by rw [e 13 (by decide), g 13 (by decide), g 12 (by decide)]; exact h.v13⟩
 have hs := h.st.put 0 (by simp) hn
 rw [e 7 (by decide), e 10 (by decide), e 12 (by decide), g 7 (by decide), g 10 (by decide), g 12 (by decide), show upd S 1 1 = true from by simp [upd], updv_same]
 simp only [h12] at hs ⊢
 exact hs
theorem NW12.made7 (h : NW12 w0 b cs qa qb qc qd F S gh wx) (_ : S 7 = false) (h11 : S 11 = false) (h12 : S 12 = false) (v : Value) (hn : Nw (qb v) wx w') : NW12 w0 b cs qa qb qc qd F (upd S 7) (updv gh 7 v) w' := by
 have e : ∀ j, 7 ≠ j → upd S 7 j = S j := fun j hj => by simp [upd, Ne.symm hj]
 have g : ∀ j, 7 ≠ j → updv gh 7 v j = gh j := fun j hj => updv_ne (Ne.symm hj)
 obtain ⟨_, _, hk, _⟩ := id hn
 refine ⟨?_, hk.blk h.bx (fun h => h), by rw [e 11 (by decide), h11]; exact fun h => (by cases h), by rw [e 13 (by decide), g 13 (by decide), g 12 (by decide)]; exact h.v13⟩
 have hs := h.st.put 1 (by simp) hn
 rw [e 1 (by decide), e 10 (by decide), e 12 (by decide), g 1 (by decide), g 10 (by decide), g 12 (by decide), show upd S 7 7 = true from by simp [upd], updv_same]
 simp only [h12] at hs ⊢
 exact hs
theorem NW12.made10 (h : NW12 w0 b cs qa qb qc qd F S gh wx) (_ : S 10 = false) (h11 : S 11 = false) (h12 : S 12 = false) (v : Value) (hn : Nw (qc v) wx w') : NW12 w0 b cs qa qb qc qd F (upd S 10) (updv gh 10 v) w' := by
 have e : ∀ j, 10 ≠ j → upd S 10 j = S j := fun j hj => by simp [upd, Ne.symm hj]
 have g : ∀ j, 10 ≠ j → updv gh 10 v j = gh j := fun j hj => updv_ne (Ne.symm hj)
 obtain ⟨_, _, hk, _⟩ := id hn
 refine ⟨?_, hk.blk h.bx (fun h => h), by rw [e 11 (by decide), h11]; exact fun h => (by cases h), by rw [e 13 (by decide), g 13 (by decide), g 12 (by decide)]; exact h.v13⟩
 have hs := h.st.put 2 (by simp) hn
 rw [e 1 (by decide), e 7 (by decide), e 12 (by decide), g 1 (by decide), g 7 (by decide), g 12 (by decide), show upd S 10 10 = true from by simp [upd], updv_same]
 simp only [h12] at hs ⊢
 exact hs
theorem NW12.done11 (h : NW12 w0 b cs qa qb qc qd F S gh wx) {v : Value} (hv : v = F (gh 1) (gh 7) (gh 10)) : NW12 w0 b cs qa qb qc qd F (upd S 11) (updv gh 11 v) wx := by
 have e : ∀ j, 11 ≠ j → upd S 11 j = S j := fun j hj => by simp [upd, Ne.symm hj]
 have g : ∀ j, 11 ≠ j → updv gh 11 v j = gh j := fun j hj => updv_ne (Ne.symm hj)
 refine ⟨?_, h.bx, fun _ => by rw [updv_same, g 1 (by decide), g 7 (by decide), g 10 (by decide)]; exact hv, by rw [e 13 (by decide), g 13 (by decide), g 12 (by decide)]; exact h.v13⟩
 rw [e 1 (by decide), e 7 (by decide), e 10 (by decide), e 12 (by decide), g 1 (by decide), g 7 (by decide), g 10 (by decide), g 12 (by decide)]
 exact h.st
theorem NW12.made12 (h : NW12 w0 b cs qa qb qc qd F S gh wx) (_ : S 12 = false) (h13 : S 13 = false) (v : Value) (hn : Nw (qd (gh 1) (gh 7) (gh 10) v) wx w') : NW12 w0 b cs qa qb qc qd F (upd S 12) (updv gh 12 v) w' := by
 have e : ∀ j, 12 ≠ j → upd S 12 j = S j := fun j hj => by simp [upd, Ne.symm hj]
 have g : ∀ j, 12 ≠ j → updv gh 12 v j = gh j := fun j hj => updv_ne (Ne.symm hj)
 obtain ⟨_, _, hk, _⟩ := id hn
 refine ⟨?_, hk.blk h.bx (fun h => h), by rw [e 11 (by decide), g 11 (by decide), g 1 (by decide), g 7 (by decide), g 10 (by decide)]; exact h.v11, by rw [e 13 (by decide), h13]; exact fun h => (by cases h)⟩
 have hs := h.st.put 3 (by simp) hn
 rw [e 1 (by decide), e 7 (by decide), e 10 (by decide), g 1 (by decide), g 7 (by decide), g 10 (by decide), show upd S 12 12 = true from by simp [upd], updv_same]
 exact hs
theorem NW12.done13 (h : NW12 w0 b cs qa qb qc qd F S gh wx) {v : Value} (hv : v = gh 12) : NW12 w0 b cs qa qb qc qd F (upd S 13) (updv gh 13 v) wx := by
 have e : ∀ j, 13 ≠ j → upd S 13 j = S j := fun j hj => by simp [upd, Ne.symm hj]
 have g : ∀ j, 13 ≠ j → updv gh 13 v j = gh j := fun j hj => updv_ne (Ne.symm hj)
 refine ⟨?_, h.bx, by rw [e 11 (by decide), g 11 (by decide), g 1 (by decide), g 7 (by decide), g 10 (by decide)]; exact h.v11, fun _ => by rw [updv_same, g 12 (by decide)]; exact hv⟩
 rw [e 1 (by decide), e 7 (by decide), e 10 (by decide), e 12 (by decide), g 1 (by decide), g 7 (by decide), g 10 (by decide), g 12 (by decide)]
 exact h.st
theorem NW12.isA {P : Value → Prop} (h : NW12 w0 b cs qa qb qc qd F S gh wx) (hP : ∀ v R, (qa v).At R wx → P v) (hs : S 1 = true) : P (gh 1) := by
 obtain ⟨R, hR, _⟩ := (h.st.pick 0 (by simp)).get
 refine hP _ R ?_
 have e : onO (S 1) (qa (gh 1)) = qa (gh 1) := by rw [hs]; rfl
 exact e ▸ hR
theorem NW12.isB {P : Value → Prop} (h : NW12 w0 b cs qa qb qc qd F S gh wx) (hP : ∀ v R, (qb v).At R wx → P v) (hs : S 7 = true) : P (gh 7) := by
 obtain ⟨R, hR, _⟩ := (h.st.pick 1 (by simp)).get
 refine hP _ R ?_
 have e : onO (S 7) (qb (gh 7)) = qb (gh 7) := by rw [hs]; rfl
 exact e ▸ hR
theorem NW12.isC {P : Value → Prop} (h : NW12 w0 b cs qa qb qc qd F S gh wx) (hP : ∀ v R, (qc v).At R wx → P v) (hs : S 10 = true) : P (gh 10) := by
 obtain ⟨R, hR, _⟩ := (h.st.pick 2 (by simp)).get
 refine hP _ R ?_
 have e : onO (S 10) (qc (gh 10)) = qc (gh 10) := by rw [hs]; rfl
 exact e ▸ hR
end
theorem row_kept {w w' : World} {b o : Nat} {l : List Int} (hk : Keep0 w w') (h : ∀ i, i < l.length → w.cell? ⟨b, o + i, none⟩ = some (i64 (rd l i))) : ∀ i, i < l.length → w'.cell? ⟨b, o + i, none⟩ = some (i64 (rd l i)) := by
 intro i hi
 rw [cell_old hk (by have := World.block_lt_of_cell? _ _ (h i hi); simpa using this) (fun h => h)]
 exact h i hi
def aggL : Value → List Value
 | .agg a => a.toList
 | _ => []
def M12 (p : P12) (u h c : Value) : List Value := aggL u ++ [i64 (p.nd : Int), i64 p.n, i64 (p.th : Int), h, i64 0, i64 0, c, .pointer none, .pointer none, i64 0, i64 0, i64 0, .bool false, i64 0]
def QD (p : P12) (u h c v : Value) : Ass := Ass.ex fun y : Nat => (Ass.blk y 71 (M12 p u h c)).with_ (v = ptr y)
def F12 (p : P12) (u h c : Value) : Value := .agg (M12 p u h c).toArray
theorem St.exO {α : Type} {w0 w : World} {f : α → Ass} {l : List Ass} (h : St w0 (Ass.ex f :: l) w) : ∃ x, St w0 (f x :: l) w := by
 obtain ⟨h1, U, ⟨R, V, ⟨x, hx⟩, hv, hd, e⟩, h3⟩ := h
 exact ⟨x, h1, U, ⟨R, V, hx, hv, hd, e⟩, h3⟩
theorem St.withO {w0 w : World} {q : Ass} {P : Prop} {l : List Ass} (h : St w0 (q.with_ P :: l) w) : P ∧ St w0 (q :: l) w := by
 obtain ⟨h1, U, ⟨R, V, ⟨hx, hP⟩, hv, hd, e⟩, h3⟩ := h
 exact ⟨hP, h1, U, ⟨R, V, hx, hv, hd, e⟩, h3⟩
theorem new_fold {p : P12} {w w' : World} {y : Nat} {x1 : Option Addr × Nat × Option Addr × Nat} {x7 : Option Addr × Nat} {x10 : Nat × CC} {W : List Int} {L : List Acc} (hp : P12OK p)
 (h : St w [Ass.blk y 71 [i64 p.tt, i64 (p.s : Int), i64 p.g, i64 p.lm, i64 p.r, i64 (p.K : Int), .slice x1.1 p.P.length x1.2.1, .slice x1.2.2.1 p.LL.length x1.2.2.2, i64 (p.nd : Int), i64 p.n, i64 (p.th : Int), .slice x7.1 p.path.length x7.2, i64 0, i64 0, ptr x10.1, .pointer none, .pointer none, i64 0, i64 0, i64 0, .bool false, i64 0], rowO 3 1 (.slice x1.1 p.P.length x1.2.1) p.P.length (ints p.P), rowO 3 1 (.slice x1.2.2.1 p.LL.length x1.2.2.2) p.LL.length (ints p.LL), rowO 3 1 (.slice x7.1 p.path.length x7.2) p.path.length (ints (nats p.path)), r11O x10.2 p.K p.th x10.1 ⟨[], [], 0, false, 0, 0, 0, 0⟩] w') (hco : COk x10.2 p.K p.q p.K) : Nw (r12O p y (start12 p W L)) w w' := by
 obtain ⟨pa, pc, la, lc⟩ := x1
 obtain ⟨ha, hc⟩ := x7
 obtain ⟨yc, C⟩ := x10
 have hp1 := hp.p1
 have hll := hp.ll
 have hh1 := hp.h1
 obtain ⟨R, hR, _⟩ := (h.pick 1 (by simp)).get
 obtain ⟨pb, e1, _, _⟩ := rowO_cell hR (show 0 < p.P.length by omega)
 obtain ⟨R, hR, _⟩ := (h.pick 2 (by simp)).get
 obtain ⟨lb, e2, _, _⟩ := rowO_cell hR (show 0 < p.LL.length by omega)
 obtain ⟨R, hR, _⟩ := (h.pick 3 (by simp)).get
 obtain ⟨hb, e3, _, _⟩ := rowO_cell hR (show 0 < p.path.length by omega)
 cases e1
 cases e2
 cases e3
 obtain ⟨U, h2, h3, h4⟩ := h.out
 exact ⟨U, ⟨⟨pb, pc, lb, lc, hb, hc, yc, C⟩, .pointer none, .pointer none, h2, hco⟩, h3, h4⟩
set_option maxHeartbeats 4000000 in
theorem r12_New {p : P12} (hp : P12OK p) (ho : ParOK p.P) (hpath : p.path = pathN p.P p.nd) (pb po pc lb lo lc : Nat) (w : World)
 (hP : ∀ i, i < p.P.length → w.cell? ⟨pb, po + i, none⟩ = some (i64 (rd p.P i))) (hL : ∀ i, i < p.LL.length → w.cell? ⟨lb, lo + i, none⟩ = some (i64 (rd p.LL i))) (W : List Int) (L : List Acc) :
 Calls Try.prog 14 #[.agg #[i64 p.tt, i64 (p.s : Int), i64 p.g, i64 p.lm, i64 p.r, i64 (p.K : Int), .slice (some ⟨pb, po, none⟩) p.P.length pc, .slice (some ⟨lb, lo, none⟩) p.LL.length lc], i64 (p.nd : Int), i64 p.n, i64 (p.th : Int)] w fun e w' => ∃ y, e = .returned (ptr y) ∧ Nw (r12O p y (start12 p W L)) w w' := by
 have hp1 := hp.p1
 have hlb : p.LL.length ≤ 12 := by have := hp.ll; have := hp.p1; omega
 have hnd := hp.nd1
 have hth := hp.t1
 have hs8 := hp.s8
 have HO := hid ho
 have HP := hid hP
 have HL := hid hL
 have HPA := hid hpath
 have HQ := hid hp
 clear hP hL ho hpath hp
 go_enter Try.func14, Try.ntmps14
 go_upto_region 1 with fail
 apply wp_region_free (WI := NW12 w w.heap.size [i64 p.tt, i64 (p.s : Int), i64 p.g, i64 p.lm, i64 p.r, i64 (p.K : Int), .slice (some ⟨pb, po, none⟩) p.P.length pc, .slice (some ⟨lb, lo, none⟩) p.LL.length lc] (QA p) (QB p) (QC p) (QD p) (F12 p)) (by kernel_rfl) (by kernel_rfl)
 case hob =>
  apply ObligF.fixed
  case h =>
   intro S gh w1 hwi hSi hd hcl
   apply StepOk.intro
   intro K hK
   have qy := hwi.bx.k8
   go_simp
   apply hK
   · rfl
   · conv => (lhs; whnf)
   · exact hwi.fixed (by decide)
  simp only [put_lit, put_none]
  try dsimp only [List.set_cons_succ, List.set_cons_zero]
  apply ObligF.free
  case h =>
   intro S gh w1 hwi hSi hd hcl
   apply StepG.intro
   intro K hK
   have h11 : S 11 = false := by
    cases h : S 11 with
    | false => rfl
    | true => exact absurd ((hcl 11 _ rfl h) ⟨1, .data⟩ (by simp) rfl) (by rw [hSi]; decide)
   have h12 : S 12 = false := by
    cases h : S 12 with
    | false => rfl
    | true => exact absurd ((hcl 12 _ rfl h) ⟨11, .data⟩ (by simp) rfl) (by rw [h11]; decide)
   have hcP := row_kept hwi.k HP.out
   have hcL := row_kept hwi.k HL.out
   have qy := hwi.bx.k8
   go_simp
   refine Calls.mono (ref_OwnT p.tt p.s p.g p.lm p.r p.K p.P p.LL pb po lb lo pc lc _ (by omega) (by omega) hcP hcL) ?_
   rintro e w2 ⟨x, rfl, hn⟩
   apply hK
   · rfl
   · exact hwi.made1 hSi h11 h12 _ (with_nw hn rfl)
  simp only [put_lit, put_none]
  try dsimp only [List.set_cons_succ, List.set_cons_zero]
  iterate 5
   apply ObligF.fixed
   case h =>
    intro S gh w1 hwi hSi hd hcl
    apply StepOk.intro
    intro K hK
    have qy := hwi.bx.k8
    go_simp
    apply hK
    · rfl
    · conv => (lhs; whnf)
    · exact hwi.fixed (by decide)
   simp only [put_lit, put_none]
   try dsimp only [List.set_cons_succ, List.set_cons_zero]
  apply ObligF.free
  case h =>
   intro S gh w1 hwi hSi hd hcl
   apply StepG.intro
   intro K hK
   have h11 : S 11 = false := by
    cases h : S 11 with
    | false => rfl
    | true => exact absurd ((hcl 11 _ rfl h) ⟨7, .data⟩ (by simp) rfl) (by rw [hSi]; decide)
   have h12 : S 12 = false := by
    cases h : S 12 with
    | false => rfl
    | true => exact absurd ((hcl 12 _ rfl h) ⟨11, .data⟩ (by simp) rfl) (by rw [h11]; decide)
   have hcP := row_kept hwi.k HP.out
   have hcL := row_kept hwi.k HL.out
   have hc7 := ref_Path p.tt p.s p.g p.lm p.r p.K p.P pb po pc (some ⟨lb, lo, none⟩) p.LL.length lc p.nd w1 (by omega) hcP HO.out hnd
   rw [← HPA.out] at hc7
   have HC7 := hid hc7
   clear hc7
   have qy := hwi.bx.k8
   go_simp
   refine Calls.mono (HC7.out) ?_
   rintro e w2 ⟨x, rfl, hn⟩
   apply hK
   · rfl
   · exact hwi.made7 hSi h11 h12 _ (with_nw hn rfl)
  simp only [put_lit, put_none]
  try dsimp only [List.set_cons_succ, List.set_cons_zero]
  iterate 2
   apply ObligF.fixed
   case h =>
    intro S gh w1 hwi hSi hd hcl
    apply StepOk.intro
    intro K hK
    have qy := hwi.bx.k8
    go_simp
    apply hK
    · rfl
    · conv => (lhs; whnf)
    · exact hwi.fixed (by decide)
   simp only [put_lit, put_none]
   try dsimp only [List.set_cons_succ, List.set_cons_zero]
  apply ObligF.free
  case h =>
   intro S gh w1 hwi hSi hd hcl
   apply StepG.intro
   intro K hK
   have h11 : S 11 = false := by
    cases h : S 11 with
    | false => rfl
    | true => exact absurd ((hcl 11 _ rfl h) ⟨10, .data⟩ (by simp) rfl) (by rw [hSi]; decide)
   have h12 : S 12 = false := by
    cases h : S 12 with
    | false => rfl
    | true => exact absurd ((hcl 12 _ rfl h) ⟨11, .data⟩ (by simp) rfl) (by rw [h11]; decide)
   have hcP := row_kept hwi.k HP.out
   have hcL := row_kept hwi.k HL.out
   have qy := hwi.bx.k8
   go_simp
   refine Calls.mono (r11O_New p.tt p.s p.g p.lm p.r p.K p.th p.P p.LL pb po lb lo pc lc _ p.q (by omega) (by omega) hcP hcL (by unfold P12.q; push_cast; rfl) (by omega)) ?_
   rintro e w2 ⟨x, rfl, hn⟩
   apply hK
   · rfl
   · exact hwi.made10 hSi h11 h12 _ (with_nw hn rfl)
  simp only [put_lit, put_none]
  try dsimp only [List.set_cons_succ, List.set_cons_zero]
  apply ObligF.free
  case h =>
   intro S gh w1 hwi hSi hd hcl
   apply StepG.intro
   intro K hK
   obtain ⟨⟨xa, xac, xl, xlc⟩, hx1⟩ := hwi.isA (P := fun v => ∃ x : Option Addr × Nat × Option Addr × Nat, v = .agg #[i64 p.tt, i64 (p.s : Int), i64 p.g, i64 p.lm, i64 p.r, i64 (p.K : Int), .slice x.1 p.P.length x.2.1, .slice x.2.2.1 p.LL.length x.2.2.2]) (fun v R ⟨x, _, e⟩ => ⟨x, e⟩) (hd ⟨1, .data⟩ (by simp) rfl)
   obtain ⟨⟨xh, xhc⟩, hx7⟩ := hwi.isB (P := fun v => ∃ x : Option Addr × Nat, v = .slice x.1 p.path.length x.2) (fun v R ⟨x, _, e⟩ => ⟨x, e⟩) (hd ⟨7, .data⟩ (by simp) rfl)
   obtain ⟨⟨xc, xC⟩, hx10⟩ := hwi.isC (P := fun v => ∃ x : Nat × CC, v = ptr x.1) (fun v R ⟨x, _, e⟩ => ⟨x, e⟩) (hd ⟨10, .data⟩ (by simp) rfl)
   rw [hx1, hx7, hx10]
   go_simp
   apply hK
   · rfl
   · exact hwi.done11 (by rw [hx1, hx7, hx10]; rfl)
  simp only [put_lit, put_none]
  try dsimp only [List.set_cons_succ, List.set_cons_zero]
  apply ObligF.free
  case h =>
   intro S gh w1 hwi hSi hd hcl
   apply StepG.intro
   intro K hK
   have h11 := hd ⟨11, .data⟩ (by simp) rfl
   have h1a := (hcl 11 _ rfl h11) ⟨1, .data⟩ (by simp) rfl
   have h7a := (hcl 11 _ rfl h11) ⟨7, .data⟩ (by simp) rfl
   have h10a := (hcl 11 _ rfl h11) ⟨10, .data⟩ (by simp) rfl
   have h13 : S 13 = false := by
    cases h : S 13 with
    | false => rfl
    | true => exact absurd ((hcl 13 _ rfl h) ⟨12, .data⟩ (by simp) rfl) (by rw [hSi]; decide)
   obtain ⟨⟨xa, xac, xl, xlc⟩, hx1⟩ := hwi.isA (P := fun v => ∃ x : Option Addr × Nat × Option Addr × Nat, v = .agg #[i64 p.tt, i64 (p.s : Int), i64 p.g, i64 p.lm, i64 p.r, i64 (p.K : Int), .slice x.1 p.P.length x.2.1, .slice x.2.2.1 p.LL.length x.2.2.2]) (fun v R ⟨x, _, e⟩ => ⟨x, e⟩) h1a
   obtain ⟨⟨xh, xhc⟩, hx7⟩ := hwi.isB (P := fun v => ∃ x : Option Addr × Nat, v = .slice x.1 p.path.length x.2) (fun v R ⟨x, _, e⟩ => ⟨x, e⟩) h7a
   obtain ⟨⟨xc, xC⟩, hx10⟩ := hwi.isC (P := fun v => ∃ x : Nat × CC, v = ptr x.1) (fun v R ⟨x, _, e⟩ => ⟨x, e⟩) h10a
   have e11 : gh 11 = .agg #[i64 p.tt, i64 (p.s : Int), i64 p.g, i64 p.lm, i64 p.r, i64 (p.K : Int), .slice xa p.P.length xac, .slice xl p.LL.length xlc, i64 (p.nd : Int), i64 p.n, i64 (p.th : Int), .slice xh p.path.length xhc, i64 0, i64 0, ptr xc, .pointer none, .pointer none, i64 0, i64 0, i64 0, .bool false, i64 0] := by rw [hwi.v11 h11, hx1, hx7, hx10]; rfl
   rw [e11]
   go_simp
   apply hK
   · rfl
   · exact hwi.made12 hSi h13 _ (with_nw (f := fun y => Ass.blk y 71 (M12 p (gh 1) (gh 7) (gh 10))) (Nw.blk (Blk.made rfl (by rw [hx1, hx7, hx10]; rfl)) ((Keep.refl _ _).alloc _) (Nat.le_refl _)) rfl)
  simp only [put_lit, put_none]
  try dsimp only [List.set_cons_succ, List.set_cons_zero]
  apply ObligF.free
  case h =>
   intro S gh w1 hwi hSi hd hcl
   apply StepG.intro
   intro K hK
   go_simp
   apply hK
   · rfl
   · exact hwi.done13 rfl
  simp only [put_lit, put_none]
  try dsimp only [List.set_cons_succ, List.set_cons_zero]
  exact ObligF.nil
 case h0 =>
  exact NW12.start (((Keep.refl _ _).alloc _).drew) ((Blk.made rfl rfl).drew)
 case hend =>
  intro S gh wx hwi hall
  have hst : St w [QA p (gh 1), QB p (gh 7), QC p (gh 10), QD p (gh 1) (gh 7) (gh 10) (gh 12)] wx := by have h := hwi.st; rw [hall 1 (by decide), hall 7 (by decide), hall 10 (by decide), hall 12 (by decide)] at h; exact h
  have e13 := hwi.v13 (hall 13 (by decide))
  clear hwi hall
  simp only [Nat.reduceAdd]
  rw [e13]
  obtain ⟨x1, hst⟩ := hst.exO
  obtain ⟨e1, hst⟩ := hst.withO
  have hst := (St.ungroup [_, _] hst).pick 2 (by simp)
  obtain ⟨x7, hst⟩ := hst.exO
  obtain ⟨e7, hst⟩ := hst.withO
  have hst := hst.pick 3 (by simp)
  obtain ⟨x10, hst⟩ := hst.exO
  obtain ⟨e10, hst⟩ := hst.withO
  obtain ⟨hco, hst⟩ := hst.withO
  have hst := hst.pick 4 (by simp)
  obtain ⟨y, hst⟩ := hst.exO
  obtain ⟨e12, hst⟩ := hst.withO
  rw [e1, e7, e10] at hst
  rw [e12]
  clear e1 e7 e10 e12 e13
  have hst := ((((hst.pick 1 (by simp)).pick 2 (by simp)).pick 4 (by simp)).pick 4 (by simp)).pick 4 (by simp)
  have HST := hid hst
  clear hst
  go_wp2_with fail
  go_ret
  exact ⟨y, rfl, new_fold HQ.out HST.out hco⟩
end Go.Proofs.Ythaceckccobgeaa

namespace Go.Proofs.Ythaceckccobgeaa
open Go.RowKit
set_option linter.unusedVariables false
set_option linter.unusedSimpArgs false
set_option maxRecDepth 100000
set_option maxHeartbeats 1000000 in
theorem ref12_SL {τ : Type} (Mt : τ → Ass) (Inv : Nat → τ → Prop) (stp : τ → τ × Bool) (pk : τ → Nat → Int → τ) (len : Nat) (x m : Nat) (l : List Pk) (A0 : Option Addr) (kb ko c most : Nat) (w : World) (R : Nat → Prop) (t : τ)
 (hmost : most ≤ 1000000) (hl : l.length ≤ 1000000) (hlen : len ≤ 1000000) (ht : (Mt t).At R w) (hi : Inv 0 t) (hA0 : 0 < l.length → A0 = some ⟨kb, ko, none⟩ ∧ kb < w.heap.size ∧ ¬ R kb)
 (hcells : ∀ i (h : i < l.length), w.cell? ⟨kb, ko + i * 3, none⟩ = some (i64 l[i].at_) ∧ w.cell? ⟨kb, ko + i * 3 + 1, none⟩ = some (i64 l[i].w) ∧ w.cell? ⟨kb, ko + i * 3 + 2, none⟩ = some (i64 l[i].x))
 (hmem : ∀ n R w t, (Mt t).At R w → Inv n t → ∃ A c lv, Blk w m 45 [.slice A len c, lv])
 (hipk : ∀ n t i x, (∃ p ∈ l, p.w.toNat = i ∧ p.x = x) → i < len → Inv n t → Inv n (pk t i x)) (hist : ∀ n t, n < most → Inv n t → Inv (n + 1) (stp t).1)
 (hpoke : ∀ n R w t (i x : Int), (∃ p ∈ l, p.w = i ∧ p.x = x) → (Mt t).At R w → Inv n t → 0 ≤ i → i < len → Calls Try.prog 31 #[ptr m, i64 i, i64 x] w fun e w' => e = .returned (.tuple #[]) ∧ Tr (Mt (pk t i.toNat x)) R w w')
 (hstep : ∀ n R w t, n < most → (Mt t).At R w → Inv n t → Calls Try.prog 37 #[ptr x, ptr m] w fun e w' => e = .returned (.bool (stp t).2) ∧ Tr (Mt (stp t).1) R w w') :
 Calls Try.prog 15 #[ptr m, ptr x, .slice A0 l.length c, i64 most] w fun e w' =>
  e = .returned (.tuple #[i64 (playF stp pk len l most 0 t).2.1, .bool (playF stp pk len l most 0 t).2.2]) ∧ Tr (Mt (playF stp pk len l most 0 t).1) R w w' ∧ ∃ n, Inv n (playF stp pk len l most 0 t).1 := by
 have hs0 : (fun (n : Nat) (w1 : World) (t1 : τ) => ∃ R1, (Mt t1).At R1 w1 ∧ Inv n t1 ∧ (∀ k, R1 k → R k ∨ w.heap.size ≤ k) ∧ w.heap.size ≤ w1.heap.size) 0 w t := ⟨R, ht, hi, fun _ h => Or.inl h, Nat.le_refl _⟩
 refine (ref12_Play (fun n w1 t1 => ∃ R1, (Mt t1).At R1 w1 ∧ Inv n t1 ∧ (∀ k, R1 k → R k ∨ w.heap.size ≤ k) ∧ w.heap.size ≤ w1.heap.size) stp pk len x m R w.heap.size l A0 kb ko c most w t hmost hl hlen (Nat.le_refl _) hA0 hcells ?_ ?_ ?_ ?_ hs0).mono ?_
 · rintro n w1 t1 ⟨R1, h1, h2, _⟩
   exact hmem n R1 w1 t1 h1 h2
 · rintro n w1 w2 t1 ⟨R1, h1, h2, h3, h4⟩ hk
   exact ⟨R1, (Mt t1).st h1 hk (fun _ _ h => h), h2, h3, Nat.le_trans h4 hk.size⟩
 · rintro n w1 t1 i y hp ⟨R1, h1, h2, h3, h4⟩ hi0 hi1
   refine (hpoke n R1 w1 t1 i y hp h1 h2 hi0 hi1).mono ?_
   rintro e w2 ⟨rfl, R2, g1, g2, g3⟩
   exact ⟨rfl, ⟨R2, g1, hipk n t1 i.toNat y (by obtain ⟨p, hp1, rfl, rfl⟩ := hp; exact ⟨p, hp1, rfl, rfl⟩) (by omega) h2, fun k hk => (g3 k hk).elim (h3 k) (fun h => Or.inr (Nat.le_trans h4 h)), Nat.le_trans h4 g2.size⟩, g2.mono h3⟩
 · rintro n w1 t1 hn ⟨R1, h1, h2, h3, h4⟩
   refine (hstep n R1 w1 t1 hn h1 h2).mono ?_
   rintro e w2 ⟨rfl, R2, g1, g2, g3⟩
   exact ⟨rfl, ⟨R2, g1, hist n t1 hn h2, fun k hk => (g3 k hk).elim (h3 k) (fun h => Or.inr (Nat.le_trans h4 h)), Nat.le_trans h4 g2.size⟩, g2.mono h3⟩
 · rintro e w2 ⟨rfl, ⟨n, R2, g1, g2, g3, g4⟩, hk⟩
   exact ⟨rfl, ⟨R2, g1, hk.trans (Keep.refl (fun _ => False) _) (fun _ _ h => h.elim) |> fun h => ⟨h.os, h.tape, h.output, h.size, fun k hk hn => h.block k hk (fun h => h.elim hn (fun h => by omega))⟩, g3⟩, n, g2⟩
section
variable {p : P12} {X : Int} {t : S12}
theorem claimed12_L (t : S12) : (claimed12 t).L = t.L := by unfold claimed12; split <;> (try split) <;> rfl
theorem pooled12_L (t : S12) : (pooled12 p t).L = t.L := by unfold pooled12; split <;> (try split) <;> (try split) <;> rfl
theorem added12_L (t : S12) : (added12 p t).L = t.L := by unfold added12; split <;> (try split) <;> rfl
theorem n12_log (h : I12 p X t) (h6 : t.ph ≠ 6) : (n12 p t).L.length = t.L.length + 1 := by
 have hph := h.ph
 have hc : t.ph = 0 ∨ t.ph = 1 ∨ t.ph = 2 ∨ t.ph = 3 ∨ t.ph = 4 ∨ t.ph = 5 := by omega
 rcases hc with e | e | e | e | e | e
 · rw [n12_0 e, claimed12_L]
   exact cNext_log t.c (h.ci e).2.1
 · rw [n12_1 e, pooled12_L]
   exact pNext_log t.pl (h.pi e).2.2
 · by_cases h2 : 0 < t.at_
   · rw [n12_2 e h2]; simp
   · rw [n12_2z e h2]; simp
 · rw [n12_3 e]; simp
 · rw [n12_4 e]; simp
 · rw [n12_5 e, added12_L]
   have hst := (h.ai e).2.1.nx
   exact aNext_log t.a (by have := (h.ai e).2.2.1; show t.ad.st < 9; have : t.ad.st ≤ 9 := hst; omega)
theorem n12_logle (h : I12 p X t) : (n12 p t).L.length ≤ t.L.length + 1 := by
 by_cases h6 : t.ph = 6
 · rw [I12.over h6]; omega
 · rw [n12_log h h6]; omega
def IV12 (p : P12) (X0 : Int) (L0 n : Nat) (t : S12) : Prop := I12 p (X0 + (n : Int) * 1048576) t ∧ t.L.length ≤ L0 + n
theorem r12_Play {B m y : Nat} {R : Nat → Prop} {w : World} (hp : P12OK p) (l : List Pk) (A0 : Option Addr) (kb ko c most : Nat) (hmost : most ≤ 1000) (hl : l.length ≤ 1000000) (ht : ((refO B m t.W t.L).star (r12O p y t)).At R w)
 (hi : I12 p X t) (hX : X ≤ 2199023255552) (hL : t.L.length ≤ 1000000) (hA0 : 0 < l.length → A0 = some ⟨kb, ko, none⟩ ∧ kb < w.heap.size ∧ ¬ R kb)
 (hcells : ∀ i (h : i < l.length), w.cell? ⟨kb, ko + i * 3, none⟩ = some (i64 l[i].at_) ∧ w.cell? ⟨kb, ko + i * 3 + 1, none⟩ = some (i64 l[i].w) ∧ w.cell? ⟨kb, ko + i * 3 + 2, none⟩ = some (i64 l[i].x))
 (hpk : ∀ q ∈ l, ∀ (n : Nat) (t' : S12), q.w.toNat < p.q + 2 * p.K → I12 p (X + (n : Int) * 1048576) t' → I12 p (X + (n : Int) * 1048576) (pk12 t' q.w.toNat q.x)) :
 Calls Try.prog 15 #[ptr m, ptr y, .slice A0 l.length c, i64 most] w fun e w' =>
  e = .returned (.tuple #[i64 (playF (stp12 p) pk12 (p.q + 2 * p.K) l most 0 t).2.1, .bool (playF (stp12 p) pk12 (p.q + 2 * p.K) l most 0 t).2.2]) ∧
  Tr ((refO B m (playF (stp12 p) pk12 (p.q + 2 * p.K) l most 0 t).1.W (playF (stp12 p) pk12 (p.q + 2 * p.K) l most 0 t).1.L).star (r12O p y (playF (stp12 p) pk12 (p.q + 2 * p.K) l most 0 t).1)) R w w' ∧ ∃ n, IV12 p X t.L.length n (playF (stp12 p) pk12 (p.q + 2 * p.K) l most 0 t).1 := by
 have hq := hp.q264
 have hk := hp.k1
 refine ref12_SL (fun t : S12 => (refO B m t.W t.L).star (r12O p y t)) (fun n t' => n ≤ most ∧ IV12 p X t.L.length n t') (stp12 p) pk12 (p.q + 2 * p.K) y m l A0 kb ko c most w R t (by omega) hl (by omega) ht ⟨Nat.zero_le _, by simpa [IV12] using hi⟩ hA0 hcells ?_ ?_ ?_ ?_ ?_ |>.mono ?_
 · rintro n R1 w1 t1 ⟨_, _, ⟨A, c1, lv, hm, _⟩, _⟩ ⟨_, h1, _⟩
   exact ⟨A, c1, lv, by have := hm.mem; rw [h1.w.ln] at this; exact this⟩
 · rintro n t1 i x ⟨q, hq1, rfl, rfl⟩ hlt ⟨h0, h1, h2⟩
   exact ⟨h0, hpk q hq1 n t1 hlt h1, h2⟩
 · rintro n t1 hn ⟨h0, h1, h2⟩
   refine ⟨hn, ?_, ?_⟩
   · have h := h1.step hp (by omega)
     rw [show X + ((n + 1 : Nat) : Int) * 1048576 = X + (n : Int) * 1048576 + 1048576 from by push_cast; omega]
     exact h
   · have := n12_logle h1
     show (n12 p t1).L.length ≤ _
     omega
 · rintro n R1 w1 t1 i x ⟨q, hq1, rfl, rfl⟩ ⟨Rm, Rx, hm, hx, hd, e⟩ ⟨_, h1, h2⟩ hi0 hi1
   refine (refO_Poke q.w q.x hm hi0 (by rw [h1.w.ln]; exact_mod_cast hi1) (by rw [h1.w.ln]; omega)).mono ?_
   rintro e' w2 ⟨rfl, h⟩
   exact ⟨rfl, Tr.frame1 (r := r12O p y (pk12 t1 q.w.toNat q.x)) hx hd e h⟩
 · rintro n R1 w1 t1 hn h ⟨h0, h1, h2⟩
   exact r12_Step hp h1 (by omega) (by omega) h
 · rintro e w' ⟨rfl, ht, n, _, hn⟩
   exact ⟨rfl, ht, n, hn⟩
end
end Go.Proofs.Ythaceckccobgeaa

namespace Go.Proofs.Ythaceckccobgeaa
open Go.RowKit
set_option linter.unusedVariables false
set_option linter.unusedSimpArgs false
def layW (s : Int) (v : Int) (x : Int) (W : List Int) : List Int :=
 ((W.set (v * (6 + 2 * s)).toNat x).set (v * (6 + 2 * s) + 1).toNat x).set (v * (6 + 2 * s) + 2 + s + 3).toNat 1
end Go.Proofs.Ythaceckccobgeaa

namespace Go.Proofs.Ythaceckccobgeaa
open Go.RowKit
set_option linter.unusedVariables false
set_option linter.unusedSimpArgs false
def layN (s : Int) (L : List Int) : Nat → List Int → List Int
 | 0, W => W
 | n + 1, W => layW s n (rd L n) (layN s L n W)
def freshW (s k : Int) (pn : Nat) (L : List Int) : List Int := layN s L pn (List.replicate (pn * (6 + 2 * s) + 2 * k).toNat 0)
theorem layW_length (s v x : Int) (W : List Int) : (layW s v x W).length = W.length := by simp [layW]
theorem layN_length (s : Int) (L : List Int) (n : Nat) (W : List Int) : (layN s L n W).length = W.length := by
 induction n with
 | zero => rfl
 | succ n ih => rw [layN, layW_length, ih]
end Go.Proofs.Ythaceckccobgeaa
