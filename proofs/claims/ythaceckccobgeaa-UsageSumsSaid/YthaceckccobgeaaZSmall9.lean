/- Contracts and plain laws for UsageSums, part 9: what the walk of the law leans on. -/
import Derived.Test.YthaceckccobgeaaZSmall8
namespace Go.Proofs.Ythaceckccobgeaa
open Go.RowKit
set_option linter.unusedVariables false
set_option linter.unusedSimpArgs false
set_option maxRecDepth 100000
section
variable {y : Nat} {p : P12} {t : S12} {a : Ad12} {pv av : Value} {R : Nat → Prop} {w : World}
set_option maxHeartbeats 4000000 in
theorem r12_added_more (hp : P12OK p) (hl : t.at_ + 1 < p.path.length) (h : (stars [Ass.blk y 71 [i64 p.tt, i64 (p.s : Int), i64 p.g, i64 p.lm, i64 p.r, i64 (p.K : Int), .slice (some ⟨a.pb, 0, none⟩) p.P.length a.pc, .slice (some ⟨a.lb, 0, none⟩) p.LL.length a.lc, i64 (p.nd : Int), i64 p.n, i64 (p.th : Int), .slice (some ⟨a.hb, 0, none⟩) p.path.length a.hc, i64 ((t.ph : Nat)), i64 ((t.at_ : Nat)), ptr a.yc, pv, av, i64 (t.live), i64 (t.err), i64 (t.on), .bool false, i64 (t.ond)], rowO 3 1 (.slice (some ⟨a.pb, 0, none⟩) p.P.length a.pc) p.P.length (ints p.P), rowO 3 1 (.slice (some ⟨a.lb, 0, none⟩) p.LL.length a.lc) p.LL.length (ints p.LL), rowO 3 1 (.slice (some ⟨a.hb, 0, none⟩) p.path.length a.hc) p.path.length (ints (nats p.path)), r11O a.C p.K p.th a.yc t.cl]).At R w) :
 Calls Try.prog 64 #[ptr y] w fun e w' => ∃ v : Value, e = .returned (.tuple #[]) ∧ Tr (stars ((Ass.ex fun y' : Nat => (r6O (p.ct (p.v (t.at_ + 1))) p.s p.g p.n y' (ad0 p)).with_ (v = ptr y')) :: [Ass.blk y 71 [i64 p.tt, i64 (p.s : Int), i64 p.g, i64 p.lm, i64 p.r, i64 (p.K : Int), .slice (some ⟨a.pb, 0, none⟩) p.P.length a.pc, .slice (some ⟨a.lb, 0, none⟩) p.LL.length a.lc, i64 (p.nd : Int), i64 p.n, i64 (p.th : Int), .slice (some ⟨a.hb, 0, none⟩) p.path.length a.hc, i64 ((t.ph : Nat)), i64 (((t.at_ + 1 : Nat) : Int)), ptr a.yc, pv, v, i64 (t.live), i64 (t.err), i64 (t.on), .bool false, i64 (t.ond)], rowO 3 1 (.slice (some ⟨a.pb, 0, none⟩) p.P.length a.pc) p.P.length (ints p.P), rowO 3 1 (.slice (some ⟨a.lb, 0, none⟩) p.LL.length a.lc) p.LL.length (ints p.LL), rowO 3 1 (.slice (some ⟨a.hb, 0, none⟩) p.path.length a.hc) p.path.length (ints (nats p.path)), r11O a.C p.K p.th a.yc t.cl])) R w w' := by
 have hh := hp.h1
 have hab : t.at_ ≤ 12 := by omega
 obtain ⟨w0, hw0⟩ : ∃ v, v = w := ⟨_, rfl⟩
 rw [← hw0] at h ⊢
 have HS := hid (show Sx R w0 [Ass.blk y 71 [i64 p.tt, i64 (p.s : Int), i64 p.g, i64 p.lm, i64 p.r, i64 (p.K : Int), .slice (some ⟨a.pb, 0, none⟩) p.P.length a.pc, .slice (some ⟨a.lb, 0, none⟩) p.LL.length a.lc, i64 (p.nd : Int), i64 p.n, i64 (p.th : Int), .slice (some ⟨a.hb, 0, none⟩) p.path.length a.hc, i64 ((t.ph : Nat)), i64 ((t.at_ : Nat)), ptr a.yc, pv, av, i64 (t.live), i64 (t.err), i64 (t.on), .bool false, i64 (t.ond)], rowO 3 1 (.slice (some ⟨a.pb, 0, none⟩) p.P.length a.pc) p.P.length (ints p.P), rowO 3 1 (.slice (some ⟨a.lb, 0, none⟩) p.LL.length a.lc) p.LL.length (ints p.LL), rowO 3 1 (.slice (some ⟨a.hb, 0, none⟩) p.path.length a.hc) p.path.length (ints (nats p.path)), r11O a.C p.K p.th a.yc t.cl] w0 from Sx.start h)
 clear h hw0
 obtain ⟨_, ⟨hb, _⟩, _⟩ := Sx.get (show Sx R w0 [Ass.blk y 71 [i64 p.tt, i64 (p.s : Int), i64 p.g, i64 p.lm, i64 p.r, i64 (p.K : Int), .slice (some ⟨a.pb, 0, none⟩) p.P.length a.pc, .slice (some ⟨a.lb, 0, none⟩) p.LL.length a.lc, i64 (p.nd : Int), i64 p.n, i64 (p.th : Int), .slice (some ⟨a.hb, 0, none⟩) p.path.length a.hc, i64 ((t.ph : Nat)), i64 ((t.at_ : Nat)), ptr a.yc, pv, av, i64 (t.live), i64 (t.err), i64 (t.on), .bool false, i64 (t.ond)], rowO 3 1 (.slice (some ⟨a.pb, 0, none⟩) p.P.length a.pc) p.P.length (ints p.P), rowO 3 1 (.slice (some ⟨a.lb, 0, none⟩) p.LL.length a.lc) p.LL.length (ints p.LL), rowO 3 1 (.slice (some ⟨a.hb, 0, none⟩) p.path.length a.hc) p.path.length (ints (nats p.path)), r11O a.C p.K p.th a.yc t.cl] w0 from (show Sx R w0 [Ass.blk y 71 [i64 p.tt, i64 (p.s : Int), i64 p.g, i64 p.lm, i64 p.r, i64 (p.K : Int), .slice (some ⟨a.pb, 0, none⟩) p.P.length a.pc, .slice (some ⟨a.lb, 0, none⟩) p.LL.length a.lc, i64 (p.nd : Int), i64 p.n, i64 (p.th : Int), .slice (some ⟨a.hb, 0, none⟩) p.path.length a.hc, i64 ((t.ph : Nat)), i64 ((t.at_ : Nat)), ptr a.yc, pv, av, i64 (t.live), i64 (t.err), i64 (t.on), .bool false, i64 (t.ond)], rowO 3 1 (.slice (some ⟨a.pb, 0, none⟩) p.P.length a.pc) p.P.length (ints p.P), rowO 3 1 (.slice (some ⟨a.lb, 0, none⟩) p.LL.length a.lc) p.LL.length (ints p.LL), rowO 3 1 (.slice (some ⟨a.hb, 0, none⟩) p.path.length a.hc) p.path.length (ints (nats p.path)), r11O a.C p.K p.th a.yc t.cl] w0 from by repeat (with_reducible first | exact HS.out | apply Sx.alloc | apply Sx.drewN | apply Sx.drew)))
 have qy := hb.k22
 clear hb
 have HL := hid hl
 clear hl
 obtain ⟨i1, hi1⟩ : ∃ i, i = t.at_ + 1 := ⟨_, rfl⟩
 have hl := HL.out
 rw [← hi1] at hl ⊢
 have HL := hid hl
 clear hl
 have y1 : IntKind.i64.wrap ((t.at_ : Int) + 1) = (i1 : Int) := by rw [IntWalk.i64_in _ (by omega)]; omega
 have HI1 := hid hi1
 clear hi1
 go_enter Try.func64, Try.ntmps64
 go_upto_region 1 with fail
 obtain ⟨w1, hwn⟩ : ∃ v, v = (w0).setCell ⟨y, 13, none⟩ (i64 ((i1 : Nat) : Int)) := ⟨_, rfl⟩
 rw [← hwn]
 have hs := hid (show Sx R w0 [Ass.blk y 71 [i64 p.tt, i64 (p.s : Int), i64 p.g, i64 p.lm, i64 p.r, i64 (p.K : Int), .slice (some ⟨a.pb, 0, none⟩) p.P.length a.pc, .slice (some ⟨a.lb, 0, none⟩) p.LL.length a.lc, i64 (p.nd : Int), i64 p.n, i64 (p.th : Int), .slice (some ⟨a.hb, 0, none⟩) p.path.length a.hc, i64 ((t.ph : Nat)), i64 (((i1 : Nat) : Int)), ptr a.yc, pv, av, i64 (t.live), i64 (t.err), i64 (t.on), .bool false, i64 (t.ond)], rowO 3 1 (.slice (some ⟨a.pb, 0, none⟩) p.P.length a.pc) p.P.length (ints p.P), rowO 3 1 (.slice (some ⟨a.lb, 0, none⟩) p.LL.length a.lc) p.LL.length (ints p.LL), rowO 3 1 (.slice (some ⟨a.hb, 0, none⟩) p.path.length a.hc) p.path.length (ints (nats p.path)), r11O a.C p.K p.th a.yc t.cl] w1 from by rw [hwn]; exact (Sx.tr (show Sx R w0 [Ass.blk y 71 [i64 p.tt, i64 (p.s : Int), i64 p.g, i64 p.lm, i64 p.r, i64 (p.K : Int), .slice (some ⟨a.pb, 0, none⟩) p.P.length a.pc, .slice (some ⟨a.lb, 0, none⟩) p.LL.length a.lc, i64 (p.nd : Int), i64 p.n, i64 (p.th : Int), .slice (some ⟨a.hb, 0, none⟩) p.path.length a.hc, i64 ((t.ph : Nat)), i64 ((t.at_ : Nat)), ptr a.yc, pv, av, i64 (t.live), i64 (t.err), i64 (t.on), .bool false, i64 (t.ond)], rowO 3 1 (.slice (some ⟨a.pb, 0, none⟩) p.P.length a.pc) p.P.length (ints p.P), rowO 3 1 (.slice (some ⟨a.lb, 0, none⟩) p.LL.length a.lc) p.LL.length (ints p.LL), rowO 3 1 (.slice (some ⟨a.hb, 0, none⟩) p.path.length a.hc) p.path.length (ints (nats p.path)), r11O a.C p.K p.th a.yc t.cl] _ from (show Sx R w0 [Ass.blk y 71 [i64 p.tt, i64 (p.s : Int), i64 p.g, i64 p.lm, i64 p.r, i64 (p.K : Int), .slice (some ⟨a.pb, 0, none⟩) p.P.length a.pc, .slice (some ⟨a.lb, 0, none⟩) p.LL.length a.lc, i64 (p.nd : Int), i64 p.n, i64 (p.th : Int), .slice (some ⟨a.hb, 0, none⟩) p.path.length a.hc, i64 ((t.ph : Nat)), i64 ((t.at_ : Nat)), ptr a.yc, pv, av, i64 (t.live), i64 (t.err), i64 (t.on), .bool false, i64 (t.ond)], rowO 3 1 (.slice (some ⟨a.pb, 0, none⟩) p.P.length a.pc) p.P.length (ints p.P), rowO 3 1 (.slice (some ⟨a.lb, 0, none⟩) p.LL.length a.lc) p.LL.length (ints p.LL), rowO 3 1 (.slice (some ⟨a.hb, 0, none⟩) p.path.length a.hc) p.path.length (ints (nats p.path)), r11O a.C p.K p.th a.yc t.cl] _ from by repeat (with_reducible first | exact HS.out | apply Sx.alloc | apply Sx.drewN | apply Sx.drew))) (fun Rq hr => blk_store hr 13 (i64 ((i1 : Nat) : Int)))))
 clear HS hwn
 have HS := hs
 clear hs
 clear qy
 obtain ⟨_, ⟨hb, _⟩, _⟩ := Sx.get (show Sx R w0 [Ass.blk y 71 [i64 p.tt, i64 (p.s : Int), i64 p.g, i64 p.lm, i64 p.r, i64 (p.K : Int), .slice (some ⟨a.pb, 0, none⟩) p.P.length a.pc, .slice (some ⟨a.lb, 0, none⟩) p.LL.length a.lc, i64 (p.nd : Int), i64 p.n, i64 (p.th : Int), .slice (some ⟨a.hb, 0, none⟩) p.path.length a.hc, i64 ((t.ph : Nat)), i64 (((i1 : Nat) : Int)), ptr a.yc, pv, av, i64 (t.live), i64 (t.err), i64 (t.on), .bool false, i64 (t.ond)], rowO 3 1 (.slice (some ⟨a.pb, 0, none⟩) p.P.length a.pc) p.P.length (ints p.P), rowO 3 1 (.slice (some ⟨a.lb, 0, none⟩) p.LL.length a.lc) p.LL.length (ints p.LL), rowO 3 1 (.slice (some ⟨a.hb, 0, none⟩) p.path.length a.hc) p.path.length (ints (nats p.path)), r11O a.C p.K p.th a.yc t.cl] w1 from (show Sx R w0 [Ass.blk y 71 [i64 p.tt, i64 (p.s : Int), i64 p.g, i64 p.lm, i64 p.r, i64 (p.K : Int), .slice (some ⟨a.pb, 0, none⟩) p.P.length a.pc, .slice (some ⟨a.lb, 0, none⟩) p.LL.length a.lc, i64 (p.nd : Int), i64 p.n, i64 (p.th : Int), .slice (some ⟨a.hb, 0, none⟩) p.path.length a.hc, i64 ((t.ph : Nat)), i64 (((i1 : Nat) : Int)), ptr a.yc, pv, av, i64 (t.live), i64 (t.err), i64 (t.on), .bool false, i64 (t.ond)], rowO 3 1 (.slice (some ⟨a.pb, 0, none⟩) p.P.length a.pc) p.P.length (ints p.P), rowO 3 1 (.slice (some ⟨a.lb, 0, none⟩) p.LL.length a.lc) p.LL.length (ints p.LL), rowO 3 1 (.slice (some ⟨a.hb, 0, none⟩) p.path.length a.hc) p.path.length (ints (nats p.path)), r11O a.C p.K p.th a.yc t.cl] w1 from by repeat (with_reducible first | exact HS.out | apply Sx.alloc | apply Sx.drewN | apply Sx.drew)))
 have qy := hb.k22
 clear hb
 have hl := HL.out
 have g1 : (i1 < p.path.length) = True := eq_true (by omega)
 clear hl
 go_quiet (fail)
 obtain ⟨w2, hwn⟩ : ∃ v, v = w1.drewN nq := ⟨_, rfl⟩
 rw [← hwn]
 have hs := hid (show Sx R w0 [Ass.blk y 71 [i64 p.tt, i64 (p.s : Int), i64 p.g, i64 p.lm, i64 p.r, i64 (p.K : Int), .slice (some ⟨a.pb, 0, none⟩) p.P.length a.pc, .slice (some ⟨a.lb, 0, none⟩) p.LL.length a.lc, i64 (p.nd : Int), i64 p.n, i64 (p.th : Int), .slice (some ⟨a.hb, 0, none⟩) p.path.length a.hc, i64 ((t.ph : Nat)), i64 (((i1 : Nat) : Int)), ptr a.yc, pv, av, i64 (t.live), i64 (t.err), i64 (t.on), .bool false, i64 (t.ond)], rowO 3 1 (.slice (some ⟨a.pb, 0, none⟩) p.P.length a.pc) p.P.length (ints p.P), rowO 3 1 (.slice (some ⟨a.lb, 0, none⟩) p.LL.length a.lc) p.LL.length (ints p.LL), rowO 3 1 (.slice (some ⟨a.hb, 0, none⟩) p.path.length a.hc) p.path.length (ints (nats p.path)), r11O a.C p.K p.th a.yc t.cl] w2 from by rw [hwn]; exact HS.out.drewN nq)
 clear HS hwn qy
 have HS := hs
 clear hs
 go_upto_region 2 with fail
 have hil : i1 < p.path.length := HL.out
 clear g1 y1
 have hs8 := hp.s8
 have hvl : p.v i1 < p.P.length := hp.v1 hil
 have hp1 := hp.p1
 have ht1 := hp.t1
 have HP := hid hp
 clear hp
 apply wp_region_free (WI := NS 23 26 R w0 [Ass.blk y 71 [i64 p.tt, i64 (p.s : Int), i64 p.g, i64 p.lm, i64 p.r, i64 (p.K : Int), .slice (some ⟨a.pb, 0, none⟩) p.P.length a.pc, .slice (some ⟨a.lb, 0, none⟩) p.LL.length a.lc, i64 (p.nd : Int), i64 p.n, i64 (p.th : Int), .slice (some ⟨a.hb, 0, none⟩) p.path.length a.hc, i64 ((t.ph : Nat)), i64 (((i1 : Nat) : Int)), ptr a.yc, pv, av, i64 (t.live), i64 (t.err), i64 (t.on), .bool false, i64 (t.ond)], rowO 3 1 (.slice (some ⟨a.pb, 0, none⟩) p.P.length a.pc) p.P.length (ints p.P), rowO 3 1 (.slice (some ⟨a.lb, 0, none⟩) p.LL.length a.lc) p.LL.length (ints p.LL), rowO 3 1 (.slice (some ⟨a.hb, 0, none⟩) p.path.length a.hc) p.path.length (ints (nats p.path)), r11O a.C p.K p.th a.yc t.cl] (fun v => Ass.ex fun y' : Nat => (r6O (p.ct (p.v i1)) p.s p.g p.n y' (ad0 p)).with_ (v = ptr y')) (fun v => [Ass.blk y 71 (([i64 p.tt, i64 (p.s : Int), i64 p.g, i64 p.lm, i64 p.r, i64 (p.K : Int), .slice (some ⟨a.pb, 0, none⟩) p.P.length a.pc, .slice (some ⟨a.lb, 0, none⟩) p.LL.length a.lc, i64 (p.nd : Int), i64 p.n, i64 (p.th : Int), .slice (some ⟨a.hb, 0, none⟩) p.path.length a.hc, i64 ((t.ph : Nat)), i64 (((i1 : Nat) : Int)), ptr a.yc, pv, av, i64 (t.live), i64 (t.err), i64 (t.on), .bool false, i64 (t.ond)]).set 16 v), rowO 3 1 (.slice (some ⟨a.pb, 0, none⟩) p.P.length a.pc) p.P.length (ints p.P), rowO 3 1 (.slice (some ⟨a.lb, 0, none⟩) p.LL.length a.lc) p.LL.length (ints p.LL), rowO 3 1 (.slice (some ⟨a.hb, 0, none⟩) p.path.length a.hc) p.path.length (ints (nats p.path)), r11O a.C p.K p.th a.yc t.cl])) (by kernel_rfl) (by kernel_rfl)
 case hob =>
  iterate 4
   apply ObligF.fixed
   case h =>
    intro S gh w1 hwi hSi hd hcl
    apply StepOk.intro
    intro K hK
    go_simp
    apply hK
    · rfl
    · conv => (lhs; whnf)
    · exact hwi.fixed (by decide)
   simp only [put_lit, put_none]
   try dsimp only [List.set_cons_succ, List.set_cons_zero]
  apply ObligF.fixed
  case h =>
   intro S gh w1 hwi hSi hd hcl
   apply StepOk.intro
   intro K hK
   have hlast : S 26 = false := by
    cases h : S 26 with
    | false => rfl
    | true => exact absurd ((hcl 26 _ rfl h) ⟨4, .phase⟩ (by simp) rfl) (by rw [hSi]; decide)
   obtain ⟨_, _, _, ⟨hby, _⟩, ⟨_, _, hrp, ⟨_, _, hrl, ⟨_, _, hrh, _⟩, _⟩, _⟩, _⟩ := hwi.at_ hlast
   have qyq := hby.k22
   go_simp
   apply hK
   · rfl
   · conv => (lhs; whnf)
   · exact hwi.fixed (by decide)
  simp only [put_lit, put_none]
  try dsimp only [List.set_cons_succ, List.set_cons_zero]
  iterate 3
   apply ObligF.fixed
   case h =>
    intro S gh w1 hwi hSi hd hcl
    apply StepOk.intro
    intro K hK
    go_simp
    apply hK
    · rfl
    · conv => (lhs; whnf)
    · exact hwi.fixed (by decide)
   simp only [put_lit, put_none]
   try dsimp only [List.set_cons_succ, List.set_cons_zero]
  apply ObligF.fixed
  case h =>
   intro S gh w1 hwi hSi hd hcl
   apply StepOk.intro
   intro K hK
   have hlast : S 26 = false := by
    cases h : S 26 with
    | false => rfl
    | true => exact absurd ((hcl 26 _ rfl h) ⟨8, .phase⟩ (by simp) rfl) (by rw [hSi]; decide)
   obtain ⟨_, _, _, ⟨hby, _⟩, ⟨_, _, hrp, ⟨_, _, hrl, ⟨_, _, hrh, _⟩, _⟩, _⟩, _⟩ := hwi.at_ hlast
   have qyq := hby.k22
   go_simp
   apply hK
   · rfl
   · conv => (lhs; whnf)
   · exact hwi.fixed (by decide)
  simp only [put_lit, put_none]
  try dsimp only [List.set_cons_succ, List.set_cons_zero]
  iterate 3
   apply ObligF.fixed
   case h =>
    intro S gh w1 hwi hSi hd hcl
    apply StepOk.intro
    intro K hK
    go_simp
    apply hK
    · rfl
    · conv => (lhs; whnf)
    · exact hwi.fixed (by decide)
   simp only [put_lit, put_none]
   try dsimp only [List.set_cons_succ, List.set_cons_zero]
  apply ObligF.fixed
  case h =>
   intro S gh w1 hwi hSi hd hcl
   apply StepOk.intro
   intro K hK
   have hlast : S 26 = false := by
    cases h : S 26 with
    | false => rfl
    | true => exact absurd ((hcl 26 _ rfl h) ⟨12, .phase⟩ (by simp) rfl) (by rw [hSi]; decide)
   obtain ⟨_, _, _, ⟨hby, _⟩, ⟨_, _, hrp, ⟨_, _, hrl, ⟨_, _, hrh, _⟩, _⟩, _⟩, _⟩ := hwi.at_ hlast
   have qyq := hby.k22
   go_simp
   apply hK
   · rfl
   · conv => (lhs; whnf)
   · exact hwi.fixed (by decide)
  simp only [put_lit, put_none]
  try dsimp only [List.set_cons_succ, List.set_cons_zero]
  apply ObligF.fixed
  case h =>
   intro S gh w1 hwi hSi hd hcl
   apply StepOk.intro
   intro K hK
   go_simp
   apply hK
   · rfl
   · conv => (lhs; whnf)
   · exact hwi.fixed (by decide)
  simp only [put_lit, put_none]
  try dsimp only [List.set_cons_succ, List.set_cons_zero]
  apply ObligF.fixed
  case h =>
   intro S gh w1 hwi hSi hd hcl
   apply StepOk.intro
   intro K hK
   have hlast : S 26 = false := by
    cases h : S 26 with
    | false => rfl
    | true => exact absurd ((hcl 26 _ rfl h) ⟨14, .phase⟩ (by simp) rfl) (by rw [hSi]; decide)
   obtain ⟨_, _, _, ⟨hby, _⟩, ⟨_, _, hrp, ⟨_, _, hrl, ⟨_, _, hrh, _⟩, _⟩, _⟩, _⟩ := hwi.at_ hlast
   have hcl := path_cell hrh (i := i1) hil
   have hcz := path_lt hrh (by omega)
   go_simp
   apply hK
   · rfl
   · conv => (lhs; whnf)
   · exact hwi.fixed (by decide)
  simp only [put_lit, put_none]
  try dsimp only [List.set_cons_succ, List.set_cons_zero]
  iterate 3
   apply ObligF.fixed
   case h =>
    intro S gh w1 hwi hSi hd hcl
    apply StepOk.intro
    intro K hK
    go_simp
    apply hK
    · rfl
    · conv => (lhs; whnf)
    · exact hwi.fixed (by decide)
   simp only [put_lit, put_none]
   try dsimp only [List.set_cons_succ, List.set_cons_zero]
  apply ObligF.fixed
  case h =>
   intro S gh w1 hwi hSi hd hcl
   apply StepOk.intro
   intro K hK
   have hlast : S 26 = false := by
    cases h : S 26 with
    | false => rfl
    | true => exact absurd ((hcl 26 _ rfl h) ⟨18, .phase⟩ (by simp) rfl) (by rw [hSi]; decide)
   obtain ⟨_, _, _, ⟨hby, _⟩, ⟨_, _, hrp, ⟨_, _, hrl, ⟨_, _, hrh, _⟩, _⟩, _⟩, _⟩ := hwi.at_ hlast
   have qyq := hby.k22
   go_simp
   apply hK
   · rfl
   · conv => (lhs; whnf)
   · exact hwi.fixed (by decide)
  simp only [put_lit, put_none]
  try dsimp only [List.set_cons_succ, List.set_cons_zero]
  iterate 3
   apply ObligF.fixed
   case h =>
    intro S gh w1 hwi hSi hd hcl
    apply StepOk.intro
    intro K hK
    go_simp
    apply hK
    · rfl
    · conv => (lhs; whnf)
    · exact hwi.fixed (by decide)
   simp only [put_lit, put_none]
   try dsimp only [List.set_cons_succ, List.set_cons_zero]
  apply ObligF.fixed
  case h =>
   intro S gh w1 hwi hSi hd hcl
   apply StepOk.intro
   intro K hK
   have hlast : S 26 = false := by
    cases h : S 26 with
    | false => rfl
    | true => exact absurd ((hcl 26 _ rfl h) ⟨22, .phase⟩ (by simp) rfl) (by rw [hSi]; decide)
   obtain ⟨_, _, _, ⟨hby, _⟩, ⟨_, _, hrp, ⟨_, _, hrl, ⟨_, _, hrh, _⟩, _⟩, _⟩, _⟩ := hwi.at_ hlast
   have qyq := hby.k22
   go_simp
   apply hK
   · rfl
   · conv => (lhs; whnf)
   · exact hwi.fixed (by decide)
  simp only [put_lit, put_none]
  try dsimp only [List.set_cons_succ, List.set_cons_zero]
  apply ObligF.free
  case h =>
   intro S gh w1 hwi hSi hd hcl
   apply StepG.intro
   intro K hK
   have hlast : S 26 = false := by
    cases h : S 26 with
    | false => rfl
    | true => exact absurd ((hcl 26 _ rfl h) ⟨23, .data⟩ (by simp) rfl) (by rw [hSi]; decide)
   obtain ⟨_, _, _, ⟨hby, _⟩, ⟨_, _, hrp, ⟨_, _, hrl, ⟨_, _, hrh, _⟩, _⟩, _⟩, _⟩ := hwi.at_ hlast
   have qyq := hby.k22
   go_simp
   refine Calls.mono (r12_Put p.tt p.g p.lm p.r p.K p.s (some ⟨a.pb, 0, none⟩) p.P.length a.pc (some ⟨a.lb, 0, none⟩) p.LL.length a.lc (p.v i1) p.n p.th _ hs8 (by omega) ht1 [] []) ?_
   rintro e w2 ⟨yn, rfl, hn⟩
   apply hK
   · rfl
   · exact hwi.made (by decide) hSi hlast (ptr yn) (nw_with hn)
  simp only [put_lit, put_none]
  try dsimp only [List.set_cons_succ, List.set_cons_zero]
  iterate 2
   apply ObligF.fixed
   case h =>
    intro S gh w1 hwi hSi hd hcl
    apply StepOk.intro
    intro K hK
    go_simp
    apply hK
    · rfl
    · conv => (lhs; whnf)
    · exact hwi.fixed (by decide)
   simp only [put_lit, put_none]
   try dsimp only [List.set_cons_succ, List.set_cons_zero]
  apply ObligF.fixed
  case h =>
   intro S gh w1 hwi hSi hd hcl
   apply StepOk.intro
   intro K hK
   have hmade := hd ⟨23, .data⟩ (by simp) rfl
   have hlast := hSi
   obtain ⟨_, _, _, ⟨hby, _⟩, ⟨_, _, hrp, ⟨_, _, hrl, ⟨_, _, hrh, _⟩, _⟩, _⟩, _⟩ := hwi.at_ hlast
   have qyq := hby.k22
   obtain ⟨_, ⟨yq, _, e1⟩, _⟩ := Sx.get ((hwi.1 hSi).2 hmade)
   rw [e1]
   go_simp
   apply hK
   · rfl
   · conv => (lhs; whnf)
   · exact hwi.done hmade hSi (fun hs => by rw [e1] at hs ⊢; exact Sx.pick (Sx.tr (Sx.pick hs 1 (by simp)) (fun R hr => blk_store hr 16 _)) 1 (by simp))
  simp only [put_lit, put_none]
  try dsimp only [List.set_cons_succ, List.set_cons_zero]
  exact ObligF.nil
 case h0 =>
  exact NS.start HS.out (by decide)
 case hend =>
  intro S gh wx hwi hall
  obtain ⟨v, hv⟩ := hwi.end_ (hall 26 (by decide))
  clear hwi hall
  have HV := hid hv
  clear hv
  go_wp2_with fail
  (try simp only [Exit.inBlock, Exit.then])
  refine bodyPost_ret (results_none rfl _ _ _) rfl ?_
  exact ⟨v, rfl, HV.out⟩
set_option maxHeartbeats 4000000 in
theorem r12_added_last (hp : P12OK p) (hl : t.at_ + 1 = p.path.length) (hf : t.cl.fin = 1) (hc : t.cl.n < 16) (h : (stars [Ass.blk y 71 [i64 p.tt, i64 (p.s : Int), i64 p.g, i64 p.lm, i64 p.r, i64 (p.K : Int), .slice (some ⟨a.pb, 0, none⟩) p.P.length a.pc, .slice (some ⟨a.lb, 0, none⟩) p.LL.length a.lc, i64 (p.nd : Int), i64 p.n, i64 (p.th : Int), .slice (some ⟨a.hb, 0, none⟩) p.path.length a.hc, i64 ((t.ph : Nat)), i64 ((t.at_ : Nat)), ptr a.yc, pv, av, i64 (t.live), i64 (t.err), i64 (t.on), .bool false, i64 (t.ond)], rowO 3 1 (.slice (some ⟨a.pb, 0, none⟩) p.P.length a.pc) p.P.length (ints p.P), rowO 3 1 (.slice (some ⟨a.lb, 0, none⟩) p.LL.length a.lc) p.LL.length (ints p.LL), rowO 3 1 (.slice (some ⟨a.hb, 0, none⟩) p.path.length a.hc) p.path.length (ints (nats p.path)), r11O a.C p.K p.th a.yc t.cl]).At R w) :
 Calls Try.prog 64 #[ptr y] w fun e w' => e = .returned (.tuple #[]) ∧ Tr (stars [Ass.blk y 71 [i64 p.tt, i64 (p.s : Int), i64 p.g, i64 p.lm, i64 p.r, i64 (p.K : Int), .slice (some ⟨a.pb, 0, none⟩) p.P.length a.pc, .slice (some ⟨a.lb, 0, none⟩) p.LL.length a.lc, i64 (p.nd : Int), i64 p.n, i64 (p.th : Int), .slice (some ⟨a.hb, 0, none⟩) p.path.length a.hc, i64 (6), i64 (((t.at_ + 1 : Nat) : Int)), ptr a.yc, pv, av, i64 (t.live), i64 (0), i64 (hd16 t.cl.n t.live), .bool false, i64 (0)], rowO 3 1 (.slice (some ⟨a.pb, 0, none⟩) p.P.length a.pc) p.P.length (ints p.P), rowO 3 1 (.slice (some ⟨a.lb, 0, none⟩) p.LL.length a.lc) p.LL.length (ints p.LL), rowO 3 1 (.slice (some ⟨a.hb, 0, none⟩) p.path.length a.hc) p.path.length (ints (nats p.path)), r11O a.C p.K p.th a.yc t.cl]) R w w' := by
 have hh := hp.h1
 have hab : t.at_ ≤ 12 := by omega
 obtain ⟨w0, hw0⟩ : ∃ v, v = w := ⟨_, rfl⟩
 rw [← hw0] at h ⊢
 have HS := hid (show Sx R w0 [Ass.blk y 71 [i64 p.tt, i64 (p.s : Int), i64 p.g, i64 p.lm, i64 p.r, i64 (p.K : Int), .slice (some ⟨a.pb, 0, none⟩) p.P.length a.pc, .slice (some ⟨a.lb, 0, none⟩) p.LL.length a.lc, i64 (p.nd : Int), i64 p.n, i64 (p.th : Int), .slice (some ⟨a.hb, 0, none⟩) p.path.length a.hc, i64 ((t.ph : Nat)), i64 ((t.at_ : Nat)), ptr a.yc, pv, av, i64 (t.live), i64 (t.err), i64 (t.on), .bool false, i64 (t.ond)], rowO 3 1 (.slice (some ⟨a.pb, 0, none⟩) p.P.length a.pc) p.P.length (ints p.P), rowO 3 1 (.slice (some ⟨a.lb, 0, none⟩) p.LL.length a.lc) p.LL.length (ints p.LL), rowO 3 1 (.slice (some ⟨a.hb, 0, none⟩) p.path.length a.hc) p.path.length (ints (nats p.path)), r11O a.C p.K p.th a.yc t.cl] w0 from Sx.start h)
 clear h hw0
 obtain ⟨_, ⟨hb, _⟩, _⟩ := Sx.get (show Sx R w0 [Ass.blk y 71 [i64 p.tt, i64 (p.s : Int), i64 p.g, i64 p.lm, i64 p.r, i64 (p.K : Int), .slice (some ⟨a.pb, 0, none⟩) p.P.length a.pc, .slice (some ⟨a.lb, 0, none⟩) p.LL.length a.lc, i64 (p.nd : Int), i64 p.n, i64 (p.th : Int), .slice (some ⟨a.hb, 0, none⟩) p.path.length a.hc, i64 ((t.ph : Nat)), i64 ((t.at_ : Nat)), ptr a.yc, pv, av, i64 (t.live), i64 (t.err), i64 (t.on), .bool false, i64 (t.ond)], rowO 3 1 (.slice (some ⟨a.pb, 0, none⟩) p.P.length a.pc) p.P.length (ints p.P), rowO 3 1 (.slice (some ⟨a.lb, 0, none⟩) p.LL.length a.lc) p.LL.length (ints p.LL), rowO 3 1 (.slice (some ⟨a.hb, 0, none⟩) p.path.length a.hc) p.path.length (ints (nats p.path)), r11O a.C p.K p.th a.yc t.cl] w0 from (show Sx R w0 [Ass.blk y 71 [i64 p.tt, i64 (p.s : Int), i64 p.g, i64 p.lm, i64 p.r, i64 (p.K : Int), .slice (some ⟨a.pb, 0, none⟩) p.P.length a.pc, .slice (some ⟨a.lb, 0, none⟩) p.LL.length a.lc, i64 (p.nd : Int), i64 p.n, i64 (p.th : Int), .slice (some ⟨a.hb, 0, none⟩) p.path.length a.hc, i64 ((t.ph : Nat)), i64 ((t.at_ : Nat)), ptr a.yc, pv, av, i64 (t.live), i64 (t.err), i64 (t.on), .bool false, i64 (t.ond)], rowO 3 1 (.slice (some ⟨a.pb, 0, none⟩) p.P.length a.pc) p.P.length (ints p.P), rowO 3 1 (.slice (some ⟨a.lb, 0, none⟩) p.LL.length a.lc) p.LL.length (ints p.LL), rowO 3 1 (.slice (some ⟨a.hb, 0, none⟩) p.path.length a.hc) p.path.length (ints (nats p.path)), r11O a.C p.K p.th a.yc t.cl] w0 from by repeat (with_reducible first | exact HS.out | apply Sx.alloc | apply Sx.drewN | apply Sx.drew)))
 have qy := hb.k22
 clear hb
 have HL := hid hl
 clear hl
 obtain ⟨i1, hi1⟩ : ∃ i, i = t.at_ + 1 := ⟨_, rfl⟩
 have hl := HL.out
 rw [← hi1] at hl
 have HL := hid hl
 clear hl
 have y1 : IntKind.i64.wrap ((t.at_ : Int) + 1) = (i1 : Int) := by rw [IntWalk.i64_in _ (by omega)]; omega
 have HI1 := hid hi1
 clear hi1
 go_enter Try.func64, Try.ntmps64
 go_upto_region 1 with fail
 obtain ⟨w1, hwn⟩ : ∃ v, v = (w0).setCell ⟨y, 13, none⟩ (i64 ((i1 : Nat) : Int)) := ⟨_, rfl⟩
 rw [← hwn]
 have hs := hid (show Sx R w0 [Ass.blk y 71 [i64 p.tt, i64 (p.s : Int), i64 p.g, i64 p.lm, i64 p.r, i64 (p.K : Int), .slice (some ⟨a.pb, 0, none⟩) p.P.length a.pc, .slice (some ⟨a.lb, 0, none⟩) p.LL.length a.lc, i64 (p.nd : Int), i64 p.n, i64 (p.th : Int), .slice (some ⟨a.hb, 0, none⟩) p.path.length a.hc, i64 ((t.ph : Nat)), i64 (((i1 : Nat) : Int)), ptr a.yc, pv, av, i64 (t.live), i64 (t.err), i64 (t.on), .bool false, i64 (t.ond)], rowO 3 1 (.slice (some ⟨a.pb, 0, none⟩) p.P.length a.pc) p.P.length (ints p.P), rowO 3 1 (.slice (some ⟨a.lb, 0, none⟩) p.LL.length a.lc) p.LL.length (ints p.LL), rowO 3 1 (.slice (some ⟨a.hb, 0, none⟩) p.path.length a.hc) p.path.length (ints (nats p.path)), r11O a.C p.K p.th a.yc t.cl] w1 from by rw [hwn]; exact (Sx.tr (show Sx R w0 [Ass.blk y 71 [i64 p.tt, i64 (p.s : Int), i64 p.g, i64 p.lm, i64 p.r, i64 (p.K : Int), .slice (some ⟨a.pb, 0, none⟩) p.P.length a.pc, .slice (some ⟨a.lb, 0, none⟩) p.LL.length a.lc, i64 (p.nd : Int), i64 p.n, i64 (p.th : Int), .slice (some ⟨a.hb, 0, none⟩) p.path.length a.hc, i64 ((t.ph : Nat)), i64 ((t.at_ : Nat)), ptr a.yc, pv, av, i64 (t.live), i64 (t.err), i64 (t.on), .bool false, i64 (t.ond)], rowO 3 1 (.slice (some ⟨a.pb, 0, none⟩) p.P.length a.pc) p.P.length (ints p.P), rowO 3 1 (.slice (some ⟨a.lb, 0, none⟩) p.LL.length a.lc) p.LL.length (ints p.LL), rowO 3 1 (.slice (some ⟨a.hb, 0, none⟩) p.path.length a.hc) p.path.length (ints (nats p.path)), r11O a.C p.K p.th a.yc t.cl] _ from (show Sx R w0 [Ass.blk y 71 [i64 p.tt, i64 (p.s : Int), i64 p.g, i64 p.lm, i64 p.r, i64 (p.K : Int), .slice (some ⟨a.pb, 0, none⟩) p.P.length a.pc, .slice (some ⟨a.lb, 0, none⟩) p.LL.length a.lc, i64 (p.nd : Int), i64 p.n, i64 (p.th : Int), .slice (some ⟨a.hb, 0, none⟩) p.path.length a.hc, i64 ((t.ph : Nat)), i64 ((t.at_ : Nat)), ptr a.yc, pv, av, i64 (t.live), i64 (t.err), i64 (t.on), .bool false, i64 (t.ond)], rowO 3 1 (.slice (some ⟨a.pb, 0, none⟩) p.P.length a.pc) p.P.length (ints p.P), rowO 3 1 (.slice (some ⟨a.lb, 0, none⟩) p.LL.length a.lc) p.LL.length (ints p.LL), rowO 3 1 (.slice (some ⟨a.hb, 0, none⟩) p.path.length a.hc) p.path.length (ints (nats p.path)), r11O a.C p.K p.th a.yc t.cl] _ from by repeat (with_reducible first | exact HS.out | apply Sx.alloc | apply Sx.drewN | apply Sx.drew))) (fun Rq hr => blk_store hr 13 (i64 ((i1 : Nat) : Int)))))
 clear HS hwn
 have HS := hs
 clear hs
 clear qy
 obtain ⟨_, ⟨hb, _⟩, _⟩ := Sx.get (show Sx R w0 [Ass.blk y 71 [i64 p.tt, i64 (p.s : Int), i64 p.g, i64 p.lm, i64 p.r, i64 (p.K : Int), .slice (some ⟨a.pb, 0, none⟩) p.P.length a.pc, .slice (some ⟨a.lb, 0, none⟩) p.LL.length a.lc, i64 (p.nd : Int), i64 p.n, i64 (p.th : Int), .slice (some ⟨a.hb, 0, none⟩) p.path.length a.hc, i64 ((t.ph : Nat)), i64 (((i1 : Nat) : Int)), ptr a.yc, pv, av, i64 (t.live), i64 (t.err), i64 (t.on), .bool false, i64 (t.ond)], rowO 3 1 (.slice (some ⟨a.pb, 0, none⟩) p.P.length a.pc) p.P.length (ints p.P), rowO 3 1 (.slice (some ⟨a.lb, 0, none⟩) p.LL.length a.lc) p.LL.length (ints p.LL), rowO 3 1 (.slice (some ⟨a.hb, 0, none⟩) p.path.length a.hc) p.path.length (ints (nats p.path)), r11O a.C p.K p.th a.yc t.cl] w1 from (show Sx R w0 [Ass.blk y 71 [i64 p.tt, i64 (p.s : Int), i64 p.g, i64 p.lm, i64 p.r, i64 (p.K : Int), .slice (some ⟨a.pb, 0, none⟩) p.P.length a.pc, .slice (some ⟨a.lb, 0, none⟩) p.LL.length a.lc, i64 (p.nd : Int), i64 p.n, i64 (p.th : Int), .slice (some ⟨a.hb, 0, none⟩) p.path.length a.hc, i64 ((t.ph : Nat)), i64 (((i1 : Nat) : Int)), ptr a.yc, pv, av, i64 (t.live), i64 (t.err), i64 (t.on), .bool false, i64 (t.ond)], rowO 3 1 (.slice (some ⟨a.pb, 0, none⟩) p.P.length a.pc) p.P.length (ints p.P), rowO 3 1 (.slice (some ⟨a.lb, 0, none⟩) p.LL.length a.lc) p.LL.length (ints p.LL), rowO 3 1 (.slice (some ⟨a.hb, 0, none⟩) p.path.length a.hc) p.path.length (ints (nats p.path)), r11O a.C p.K p.th a.yc t.cl] w1 from by repeat (with_reducible first | exact HS.out | apply Sx.alloc | apply Sx.drewN | apply Sx.drew)))
 have qy := hb.k22
 clear hb
 have hl := HL.out
 have g1 : (i1 < p.path.length) = False := eq_false (by omega)
 clear hl
 go_quiet (fail)
 obtain ⟨w2, hwn⟩ : ∃ v, v = w1.drewN nq := ⟨_, rfl⟩
 rw [← hwn]
 have hs := hid (show Sx R w0 [Ass.blk y 71 [i64 p.tt, i64 (p.s : Int), i64 p.g, i64 p.lm, i64 p.r, i64 (p.K : Int), .slice (some ⟨a.pb, 0, none⟩) p.P.length a.pc, .slice (some ⟨a.lb, 0, none⟩) p.LL.length a.lc, i64 (p.nd : Int), i64 p.n, i64 (p.th : Int), .slice (some ⟨a.hb, 0, none⟩) p.path.length a.hc, i64 ((t.ph : Nat)), i64 (((i1 : Nat) : Int)), ptr a.yc, pv, av, i64 (t.live), i64 (t.err), i64 (t.on), .bool false, i64 (t.ond)], rowO 3 1 (.slice (some ⟨a.pb, 0, none⟩) p.P.length a.pc) p.P.length (ints p.P), rowO 3 1 (.slice (some ⟨a.lb, 0, none⟩) p.LL.length a.lc) p.LL.length (ints p.LL), rowO 3 1 (.slice (some ⟨a.hb, 0, none⟩) p.path.length a.hc) p.path.length (ints (nats p.path)), r11O a.C p.K p.th a.yc t.cl] w2 from by rw [hwn]; exact HS.out.drewN nq)
 clear HS hwn qy
 have HS := hs
 clear hs
 go_upto_region 3 with fail
 apply wp_region_text (WI := fun S wx => Keep0 w2 wx) (by kernel_rfl) (by kernel_rfl)
 case hob =>
  iterate 4
   apply Oblig.cons
   case h =>
    intro S w1 hwi hSi hd hcl
    apply StepOk.intro
    intro K hK
    obtain ⟨_, ⟨hb, _⟩, _⟩ := Sx.get (Sx.keep HS.out hwi)
    have qy := hb.k22
    clear hb
    obtain ⟨_, ⟨hcl, _⟩, _⟩ := Sx.get (Sx.pick (Sx.keep HS.out hwi) 4 (by simp))
    go_simp
    apply hK
    · rfl
    · conv => (lhs; whnf)
    · exact hwi
   simp only [put_lit, put_none]
   try dsimp only [List.set_cons_succ, List.set_cons_zero]
  apply Oblig.cons
  case h =>
   intro S w1 hwi hSi hd hcl
   apply StepOk.intro
   intro K hK
   obtain ⟨_, ⟨hb, _⟩, _⟩ := Sx.get (Sx.keep HS.out hwi)
   have qy := hb.k22
   clear hb
   obtain ⟨_, ⟨hcl, _⟩, _⟩ := Sx.get (Sx.pick (Sx.keep HS.out hwi) 4 (by simp))
   go_simp
   refine (show Calls Try.prog 52 _ w1 (Ret (.agg #[i64 0, i64 (t.cl.n : Int), .bool false, i64 0]) w1) from by have h := r11_Ans t.cl hcl; unfold clAns at h; rw [if_neg (by omega)] at h; exact h).mono ?_
   rintro e w2 ⟨rfl, hk⟩
   apply hK
   · rfl
   · conv => (lhs; whnf)
   · exact Keep0.step hwi hk
  simp only [put_lit, put_none]
  try dsimp only [List.set_cons_succ, List.set_cons_zero]
  iterate 5
   apply Oblig.cons
   case h =>
    intro S w1 hwi hSi hd hcl
    apply StepOk.intro
    intro K hK
    obtain ⟨_, ⟨hb, _⟩, _⟩ := Sx.get (Sx.keep HS.out hwi)
    have qy := hb.k22
    clear hb
    obtain ⟨_, ⟨hcl, _⟩, _⟩ := Sx.get (Sx.pick (Sx.keep HS.out hwi) 4 (by simp))
    go_simp
    apply hK
    · rfl
    · conv => (lhs; whnf)
    · exact hwi
   simp only [put_lit, put_none]
   try dsimp only [List.set_cons_succ, List.set_cons_zero]
  apply Oblig.cons
  case h =>
   intro S w1 hwi hSi hd hcl
   apply StepOk.intro
   intro K hK
   go_simp
   refine (ref10_Handle t.cl.n t.live _ (by omega)).mono ?_
   rintro e w2 ⟨rfl, rfl⟩
   apply hK
   · rfl
   · conv => (lhs; whnf)
   · exact hwi
  simp only [put_lit, put_none]
  try dsimp only [List.set_cons_succ, List.set_cons_zero]
  iterate 5
   apply Oblig.cons
   case h =>
    intro S w1 hwi hSi hd hcl
    apply StepOk.intro
    intro K hK
    obtain ⟨_, ⟨hb, _⟩, _⟩ := Sx.get (Sx.keep HS.out hwi)
    have qy := hb.k22
    clear hb
    obtain ⟨_, ⟨hcl, _⟩, _⟩ := Sx.get (Sx.pick (Sx.keep HS.out hwi) 4 (by simp))
    go_simp
    apply hK
    · rfl
    · conv => (lhs; whnf)
    · exact hwi
   simp only [put_lit, put_none]
   try dsimp only [List.set_cons_succ, List.set_cons_zero]
  exact Oblig.nil
 case h0 =>
  exact (Keep.refl _ _).drew
 case hend =>
  intro S wx hwi hall
  have hkx := hwi
  obtain ⟨w3, hwn⟩ : ∃ v, v = wx := ⟨_, rfl⟩
  rw [← hwn] at hkx ⊢
  have hs := hid (show Sx R w0 [Ass.blk y 71 [i64 p.tt, i64 (p.s : Int), i64 p.g, i64 p.lm, i64 p.r, i64 (p.K : Int), .slice (some ⟨a.pb, 0, none⟩) p.P.length a.pc, .slice (some ⟨a.lb, 0, none⟩) p.LL.length a.lc, i64 (p.nd : Int), i64 p.n, i64 (p.th : Int), .slice (some ⟨a.hb, 0, none⟩) p.path.length a.hc, i64 ((t.ph : Nat)), i64 (((i1 : Nat) : Int)), ptr a.yc, pv, av, i64 (t.live), i64 (t.err), i64 (t.on), .bool false, i64 (t.ond)], rowO 3 1 (.slice (some ⟨a.pb, 0, none⟩) p.P.length a.pc) p.P.length (ints p.P), rowO 3 1 (.slice (some ⟨a.lb, 0, none⟩) p.LL.length a.lc) p.LL.length (ints p.LL), rowO 3 1 (.slice (some ⟨a.hb, 0, none⟩) p.path.length a.hc) p.path.length (ints (nats p.path)), r11O a.C p.K p.th a.yc t.cl] w3 from Sx.keep HS.out hkx)
  clear hwi hall hkx hwn HS
  have HS := hs
  clear hs
  obtain ⟨_, ⟨hb, _⟩, _⟩ := Sx.get (show Sx R w0 [Ass.blk y 71 [i64 p.tt, i64 (p.s : Int), i64 p.g, i64 p.lm, i64 p.r, i64 (p.K : Int), .slice (some ⟨a.pb, 0, none⟩) p.P.length a.pc, .slice (some ⟨a.lb, 0, none⟩) p.LL.length a.lc, i64 (p.nd : Int), i64 p.n, i64 (p.th : Int), .slice (some ⟨a.hb, 0, none⟩) p.path.length a.hc, i64 ((t.ph : Nat)), i64 (((i1 : Nat) : Int)), ptr a.yc, pv, av, i64 (t.live), i64 (t.err), i64 (t.on), .bool false, i64 (t.ond)], rowO 3 1 (.slice (some ⟨a.pb, 0, none⟩) p.P.length a.pc) p.P.length (ints p.P), rowO 3 1 (.slice (some ⟨a.lb, 0, none⟩) p.LL.length a.lc) p.LL.length (ints p.LL), rowO 3 1 (.slice (some ⟨a.hb, 0, none⟩) p.path.length a.hc) p.path.length (ints (nats p.path)), r11O a.C p.K p.th a.yc t.cl] w3 from (show Sx R w0 [Ass.blk y 71 [i64 p.tt, i64 (p.s : Int), i64 p.g, i64 p.lm, i64 p.r, i64 (p.K : Int), .slice (some ⟨a.pb, 0, none⟩) p.P.length a.pc, .slice (some ⟨a.lb, 0, none⟩) p.LL.length a.lc, i64 (p.nd : Int), i64 p.n, i64 (p.th : Int), .slice (some ⟨a.hb, 0, none⟩) p.path.length a.hc, i64 ((t.ph : Nat)), i64 (((i1 : Nat) : Int)), ptr a.yc, pv, av, i64 (t.live), i64 (t.err), i64 (t.on), .bool false, i64 (t.ond)], rowO 3 1 (.slice (some ⟨a.pb, 0, none⟩) p.P.length a.pc) p.P.length (ints p.P), rowO 3 1 (.slice (some ⟨a.lb, 0, none⟩) p.LL.length a.lc) p.LL.length (ints p.LL), rowO 3 1 (.slice (some ⟨a.hb, 0, none⟩) p.path.length a.hc) p.path.length (ints (nats p.path)), r11O a.C p.K p.th a.yc t.cl] w3 from by repeat (with_reducible first | exact HS.out | apply Sx.alloc | apply Sx.drewN | apply Sx.drew)))
  have qy := hb.k22
  clear hb
  go_wp2_with fail
  go_end0
  have hi1 := HI1.out
  rw [← hi1]
  exact ⟨rfl, (show Sx R w0 [Ass.blk y 71 [i64 p.tt, i64 (p.s : Int), i64 p.g, i64 p.lm, i64 p.r, i64 (p.K : Int), .slice (some ⟨a.pb, 0, none⟩) p.P.length a.pc, .slice (some ⟨a.lb, 0, none⟩) p.LL.length a.lc, i64 (p.nd : Int), i64 p.n, i64 (p.th : Int), .slice (some ⟨a.hb, 0, none⟩) p.path.length a.hc, i64 (6), i64 (((i1 : Nat) : Int)), ptr a.yc, pv, av, i64 (t.live), i64 (0), i64 (hd16 t.cl.n t.live), .bool false, i64 (0)], rowO 3 1 (.slice (some ⟨a.pb, 0, none⟩) p.P.length a.pc) p.P.length (ints p.P), rowO 3 1 (.slice (some ⟨a.lb, 0, none⟩) p.LL.length a.lc) p.LL.length (ints p.LL), rowO 3 1 (.slice (some ⟨a.hb, 0, none⟩) p.path.length a.hc) p.path.length (ints (nats p.path)), r11O a.C p.K p.th a.yc t.cl] _ from (Sx.tr (Sx.tr (Sx.tr (Sx.tr (Sx.tr (show Sx R w0 [Ass.blk y 71 [i64 p.tt, i64 (p.s : Int), i64 p.g, i64 p.lm, i64 p.r, i64 (p.K : Int), .slice (some ⟨a.pb, 0, none⟩) p.P.length a.pc, .slice (some ⟨a.lb, 0, none⟩) p.LL.length a.lc, i64 (p.nd : Int), i64 p.n, i64 (p.th : Int), .slice (some ⟨a.hb, 0, none⟩) p.path.length a.hc, i64 ((t.ph : Nat)), i64 (((i1 : Nat) : Int)), ptr a.yc, pv, av, i64 (t.live), i64 (t.err), i64 (t.on), .bool false, i64 (t.ond)], rowO 3 1 (.slice (some ⟨a.pb, 0, none⟩) p.P.length a.pc) p.P.length (ints p.P), rowO 3 1 (.slice (some ⟨a.lb, 0, none⟩) p.LL.length a.lc) p.LL.length (ints p.LL), rowO 3 1 (.slice (some ⟨a.hb, 0, none⟩) p.path.length a.hc) p.path.length (ints (nats p.path)), r11O a.C p.K p.th a.yc t.cl] _ from (show Sx R w0 [Ass.blk y 71 [i64 p.tt, i64 (p.s : Int), i64 p.g, i64 p.lm, i64 p.r, i64 (p.K : Int), .slice (some ⟨a.pb, 0, none⟩) p.P.length a.pc, .slice (some ⟨a.lb, 0, none⟩) p.LL.length a.lc, i64 (p.nd : Int), i64 p.n, i64 (p.th : Int), .slice (some ⟨a.hb, 0, none⟩) p.path.length a.hc, i64 ((t.ph : Nat)), i64 (((i1 : Nat) : Int)), ptr a.yc, pv, av, i64 (t.live), i64 (t.err), i64 (t.on), .bool false, i64 (t.ond)], rowO 3 1 (.slice (some ⟨a.pb, 0, none⟩) p.P.length a.pc) p.P.length (ints p.P), rowO 3 1 (.slice (some ⟨a.lb, 0, none⟩) p.LL.length a.lc) p.LL.length (ints p.LL), rowO 3 1 (.slice (some ⟨a.hb, 0, none⟩) p.path.length a.hc) p.path.length (ints (nats p.path)), r11O a.C p.K p.th a.yc t.cl] _ from by repeat (with_reducible first | exact HS.out | apply Sx.alloc | apply Sx.drewN | apply Sx.drew))) (fun Rq hr => blk_store hr 18 (i64 0))) (fun Rq hr => blk_store hr 19 (i64 (hd16 t.cl.n t.live)))) (fun Rq hr => blk_store hr 20 (.bool false))) (fun Rq hr => blk_store hr 21 (i64 0))) (fun Rq hr => blk_store hr 12 (i64 6))))⟩
end
end Go.Proofs.Ythaceckccobgeaa

namespace Go.Proofs.Ythaceckccobgeaa
open Go.RowKit
set_option linter.unusedVariables false
set_option linter.unusedSimpArgs false
set_option maxRecDepth 100000
section
variable {B m y : Nat} {p : P12} {t : S12} {a : Ad12} {pv av : Value} {R : Nat → Prop} {w : World}
set_option maxHeartbeats 4000000 in
theorem r12_step3 (hp : P12OK p) (hf : t.cl.fin = 1) (hn : t.cl.n < p.K) (htk : t.tk p + 2 ≤ t.W.length) (hW : t.W.length ≤ 10000) (hL : t.L.length ≤ 1000000000) (h : (stars (refO B m t.W t.L :: [Ass.blk y 71 [i64 p.tt, i64 (p.s : Int), i64 p.g, i64 p.lm, i64 p.r, i64 (p.K : Int), .slice (some ⟨a.pb, 0, none⟩) p.P.length a.pc, .slice (some ⟨a.lb, 0, none⟩) p.LL.length a.lc, i64 (p.nd : Int), i64 p.n, i64 (p.th : Int), .slice (some ⟨a.hb, 0, none⟩) p.path.length a.hc, i64 (((3 : Nat) : Int)), i64 ((t.at_ : Nat)), ptr a.yc, pv, av, i64 (t.live), i64 (t.err), i64 (t.on), .bool false, i64 (t.ond)], rowO 3 1 (.slice (some ⟨a.pb, 0, none⟩) p.P.length a.pc) p.P.length (ints p.P), rowO 3 1 (.slice (some ⟨a.lb, 0, none⟩) p.LL.length a.lc) p.LL.length (ints p.LL), rowO 3 1 (.slice (some ⟨a.hb, 0, none⟩) p.path.length a.hc) p.path.length (ints (nats p.path)), r11O a.C p.K p.th a.yc t.cl])).At R w) :
 Calls Try.prog 37 #[ptr y, ptr m] w fun e w' => e = .returned (.bool false) ∧ Tr (stars ((refO B m (t.W.set (t.tk p + 1) (p.nd * 2097152 + p.n)) (t.L ++ [⟨4, (t.tk p + 1 : Nat), p.nd * 2097152 + p.n, 0, false⟩])) :: [Ass.blk y 71 [i64 p.tt, i64 (p.s : Int), i64 p.g, i64 p.lm, i64 p.r, i64 (p.K : Int), .slice (some ⟨a.pb, 0, none⟩) p.P.length a.pc, .slice (some ⟨a.lb, 0, none⟩) p.LL.length a.lc, i64 (p.nd : Int), i64 p.n, i64 (p.th : Int), .slice (some ⟨a.hb, 0, none⟩) p.path.length a.hc, i64 (((4 : Nat) : Int)), i64 ((t.at_ : Nat)), ptr a.yc, pv, av, i64 (t.live), i64 (t.err), i64 (t.on), .bool false, i64 (t.ond)], rowO 3 1 (.slice (some ⟨a.pb, 0, none⟩) p.P.length a.pc) p.P.length (ints p.P), rowO 3 1 (.slice (some ⟨a.lb, 0, none⟩) p.LL.length a.lc) p.LL.length (ints p.LL), rowO 3 1 (.slice (some ⟨a.hb, 0, none⟩) p.path.length a.hc) p.path.length (ints (nats p.path)), r11O a.C p.K p.th a.yc t.cl])) R w w' := by
 obtain ⟨w0, hw0⟩ : ∃ v, v = w := ⟨_, rfl⟩
 rw [← hw0] at h ⊢
 have HS := hid (show Sx R w0 [refO B m t.W t.L, Ass.blk y 71 [i64 p.tt, i64 (p.s : Int), i64 p.g, i64 p.lm, i64 p.r, i64 (p.K : Int), .slice (some ⟨a.pb, 0, none⟩) p.P.length a.pc, .slice (some ⟨a.lb, 0, none⟩) p.LL.length a.lc, i64 (p.nd : Int), i64 p.n, i64 (p.th : Int), .slice (some ⟨a.hb, 0, none⟩) p.path.length a.hc, i64 (((3 : Nat) : Int)), i64 ((t.at_ : Nat)), ptr a.yc, pv, av, i64 (t.live), i64 (t.err), i64 (t.on), .bool false, i64 (t.ond)], rowO 3 1 (.slice (some ⟨a.pb, 0, none⟩) p.P.length a.pc) p.P.length (ints p.P), rowO 3 1 (.slice (some ⟨a.lb, 0, none⟩) p.LL.length a.lc) p.LL.length (ints p.LL), rowO 3 1 (.slice (some ⟨a.hb, 0, none⟩) p.path.length a.hc) p.path.length (ints (nats p.path)), r11O a.C p.K p.th a.yc t.cl] w0 from Sx.start h)
 clear h hw0
 obtain ⟨k1, hk1⟩ : ∃ k, k = t.tk p + 1 := ⟨_, rfl⟩
 rw [← hk1]
 have y1 : IntKind.i64.wrap (((t.tk p : Nat) : Int) + 1) = (k1 : Int) := by rw [IntWalk.i64_in _ (by omega)]; omega
 have hk1b : k1 < t.W.length := by omega
 clear hk1
 have hs8 := hp.s8
 have hp1 := hp.p1
 have hk1 := hp.k1
 obtain ⟨ae, hae⟩ : ∃ ae : Int, ae = (if t.cl.fin = 2 then 3 else 0) := ⟨_, rfl⟩
 have HAE := hid hae
 clear hae
 have htk0 := fun w' => ref_Ticket p.tt p.s p.g p.lm p.r p.K (some ⟨a.pb, 0, none⟩) p.P.length a.pc (some ⟨a.lb, 0, none⟩) p.LL.length a.lc (t.cl.n : Int) w' (by omega) (by omega) (by omega) (by omega) (by omega)
 rw [show (p.P.length : Int) * (6 + 2 * (p.s : Int)) + 2 * (t.cl.n : Int) = ((t.tk p : Nat) : Int) from by unfold S12.tk P12.q; push_cast; rfl] at htk0
 have HTK := hid htk0
 clear htk0
 go_enter Try.func37, Try.ntmps37
 go_upto_region 1 with fail
 apply wp_region_text (WI := fun S wx => Keep0 w0 wx) (by kernel_rfl) (by kernel_rfl)
 case hob =>
  iterate 8
   apply Oblig.cons
   case h =>
    intro S w1 hwi hSi hd hcl
    apply StepOk.intro
    intro K hK
    obtain ⟨_, ⟨hb, _⟩, _⟩ := Sx.get (Sx.pick (Sx.keep HS.out hwi) 1 (by simp))
    have qy := hb.k22
    clear hb
    obtain ⟨_, ⟨hcl, _⟩, _⟩ := Sx.get (Sx.pick (Sx.keep HS.out hwi) 5 (by simp))
    go_simp
    apply hK
    · rfl
    · conv => (lhs; whnf)
    · exact hwi
   simp only [put_lit, put_none]
   try dsimp only [List.set_cons_succ, List.set_cons_zero]
  apply Oblig.cons
  case h =>
   intro S w1 hwi hSi hd hcl
   apply StepOk.intro
   intro K hK
   obtain ⟨_, ⟨hb, _⟩, _⟩ := Sx.get (Sx.pick (Sx.keep HS.out hwi) 1 (by simp))
   have qy := hb.k22
   clear hb
   obtain ⟨_, ⟨hcl, _⟩, _⟩ := Sx.get (Sx.pick (Sx.keep HS.out hwi) 5 (by simp))
   go_simp
   refine (show Calls Try.prog 52 _ w1 (Ret (.agg #[i64 ae, i64 (t.cl.n : Int), .bool false, i64 0]) w1) from by have h := r11_Ans t.cl hcl; unfold clAns at h; rw [← HAE.out] at h; exact h).mono ?_
   rintro e w2 ⟨rfl, hk⟩
   apply hK
   · rfl
   · conv => (lhs; whnf)
   · exact Keep0.step hwi hk
  simp only [put_lit, put_none]
  try dsimp only [List.set_cons_succ, List.set_cons_zero]
  apply Oblig.cons
  case h =>
   intro S w1 hwi hSi hd hcl
   apply StepOk.intro
   intro K hK
   obtain ⟨_, ⟨hb, _⟩, _⟩ := Sx.get (Sx.pick (Sx.keep HS.out hwi) 1 (by simp))
   have qy := hb.k22
   clear hb
   obtain ⟨_, ⟨hcl, _⟩, _⟩ := Sx.get (Sx.pick (Sx.keep HS.out hwi) 5 (by simp))
   go_simp
   apply hK
   · rfl
   · conv => (lhs; whnf)
   · exact hwi
  simp only [put_lit, put_none]
  try dsimp only [List.set_cons_succ, List.set_cons_zero]
  apply Oblig.cons
  case h =>
   intro S w1 hwi hSi hd hcl
   apply StepOk.intro
   intro K hK
   go_simp
   refine (HTK.out _).mono ?_
   rintro e w2 ⟨rfl, hk⟩
   apply hK
   · rfl
   · conv => (lhs; whnf)
   · exact Keep0.step hwi hk
  simp only [put_lit, put_none]
  try dsimp only [List.set_cons_succ, List.set_cons_zero]
  apply Oblig.cons
  case h =>
   intro S w1 hwi hSi hd hcl
   apply StepOk.intro
   intro K hK
   obtain ⟨_, ⟨hb, _⟩, _⟩ := Sx.get (Sx.pick (Sx.keep HS.out hwi) 1 (by simp))
   have qy := hb.k22
   clear hb
   obtain ⟨_, ⟨hcl, _⟩, _⟩ := Sx.get (Sx.pick (Sx.keep HS.out hwi) 5 (by simp))
   go_simp
   apply hK
   · rfl
   · conv => (lhs; whnf)
   · exact hwi
  simp only [put_lit, put_none]
  try dsimp only [List.set_cons_succ, List.set_cons_zero]
  exact Oblig.nil
 case h0 =>
  exact (Keep.refl _ _).drew
 case hend =>
  intro S wx hwi hall
  have hkx := hwi
  obtain ⟨w1, hwn⟩ : ∃ v, v = wx := ⟨_, rfl⟩
  rw [← hwn] at hkx ⊢
  have hs := hid (show Sx R w0 [refO B m t.W t.L, Ass.blk y 71 [i64 p.tt, i64 (p.s : Int), i64 p.g, i64 p.lm, i64 p.r, i64 (p.K : Int), .slice (some ⟨a.pb, 0, none⟩) p.P.length a.pc, .slice (some ⟨a.lb, 0, none⟩) p.LL.length a.lc, i64 (p.nd : Int), i64 p.n, i64 (p.th : Int), .slice (some ⟨a.hb, 0, none⟩) p.path.length a.hc, i64 (((3 : Nat) : Int)), i64 ((t.at_ : Nat)), ptr a.yc, pv, av, i64 (t.live), i64 (t.err), i64 (t.on), .bool false, i64 (t.ond)], rowO 3 1 (.slice (some ⟨a.pb, 0, none⟩) p.P.length a.pc) p.P.length (ints p.P), rowO 3 1 (.slice (some ⟨a.lb, 0, none⟩) p.LL.length a.lc) p.LL.length (ints p.LL), rowO 3 1 (.slice (some ⟨a.hb, 0, none⟩) p.path.length a.hc) p.path.length (ints (nats p.path)), r11O a.C p.K p.th a.yc t.cl] w1 from Sx.keep HS.out hkx)
  clear hwi hall hkx hwn HS
  have HS := hs
  clear hs
  obtain ⟨_, ⟨hb, _⟩, _⟩ := Sx.get (show Sx R w0 [Ass.blk y 71 [i64 p.tt, i64 (p.s : Int), i64 p.g, i64 p.lm, i64 p.r, i64 (p.K : Int), .slice (some ⟨a.pb, 0, none⟩) p.P.length a.pc, .slice (some ⟨a.lb, 0, none⟩) p.LL.length a.lc, i64 (p.nd : Int), i64 p.n, i64 (p.th : Int), .slice (some ⟨a.hb, 0, none⟩) p.path.length a.hc, i64 (((3 : Nat) : Int)), i64 ((t.at_ : Nat)), ptr a.yc, pv, av, i64 (t.live), i64 (t.err), i64 (t.on), .bool false, i64 (t.ond)], refO B m t.W t.L, rowO 3 1 (.slice (some ⟨a.pb, 0, none⟩) p.P.length a.pc) p.P.length (ints p.P), rowO 3 1 (.slice (some ⟨a.lb, 0, none⟩) p.LL.length a.lc) p.LL.length (ints p.LL), rowO 3 1 (.slice (some ⟨a.hb, 0, none⟩) p.path.length a.hc) p.path.length (ints (nats p.path)), r11O a.C p.K p.th a.yc t.cl] w1 from (Sx.pick (show Sx R w0 [refO B m t.W t.L, Ass.blk y 71 [i64 p.tt, i64 (p.s : Int), i64 p.g, i64 p.lm, i64 p.r, i64 (p.K : Int), .slice (some ⟨a.pb, 0, none⟩) p.P.length a.pc, .slice (some ⟨a.lb, 0, none⟩) p.LL.length a.lc, i64 (p.nd : Int), i64 p.n, i64 (p.th : Int), .slice (some ⟨a.hb, 0, none⟩) p.path.length a.hc, i64 (((3 : Nat) : Int)), i64 ((t.at_ : Nat)), ptr a.yc, pv, av, i64 (t.live), i64 (t.err), i64 (t.on), .bool false, i64 (t.ond)], rowO 3 1 (.slice (some ⟨a.pb, 0, none⟩) p.P.length a.pc) p.P.length (ints p.P), rowO 3 1 (.slice (some ⟨a.lb, 0, none⟩) p.LL.length a.lc) p.LL.length (ints p.LL), rowO 3 1 (.slice (some ⟨a.hb, 0, none⟩) p.path.length a.hc) p.path.length (ints (nats p.path)), r11O a.C p.K p.th a.yc t.cl] w1 from by repeat (with_reducible first | exact HS.out | apply Sx.alloc | apply Sx.drewN | apply Sx.drew)) 1 (by simp)))
  have qy := hb.k22
  clear hb
  have HBD := hid (ref10_Body p.nd p.n)
  have hnd := hp.nd1
  go_upto_region 17 with fail
  apply wp_region_text (WI := fun S wx => Keep0 w1 wx) (by kernel_rfl) (by kernel_rfl)
  case hob =>
   iterate 8
    apply Oblig.cons
    case h =>
     intro S w1 hwi hSi hd hcl
     apply StepOk.intro
     intro K hK
     obtain ⟨_, ⟨hb, _⟩, _⟩ := Sx.get (Sx.pick (Sx.keep HS.out hwi) 1 (by simp))
     have qy := hb.k22
     clear hb
     go_simp
     apply hK
     · rfl
     · conv => (lhs; whnf)
     · exact hwi
    simp only [put_lit, put_none]
    try dsimp only [List.set_cons_succ, List.set_cons_zero]
   apply Oblig.cons
   case h =>
    intro S w1 hwi hSi hd hcl
    apply StepOk.intro
    intro K hK
    obtain ⟨_, ⟨hb, _⟩, _⟩ := Sx.get (Sx.pick (Sx.keep HS.out hwi) 1 (by simp))
    have qy := hb.k22
    clear hb
    go_simp
    refine (HBD.out _ (by omega) hp.n1).mono ?_
    rintro e w2 ⟨rfl, rfl⟩
    apply hK
    · rfl
    · conv => (lhs; whnf)
    · exact hwi
   simp only [put_lit, put_none]
   try dsimp only [List.set_cons_succ, List.set_cons_zero]
   iterate 5
    apply Oblig.cons
    case h =>
     intro S w1 hwi hSi hd hcl
     apply StepOk.intro
     intro K hK
     obtain ⟨_, ⟨hb, _⟩, _⟩ := Sx.get (Sx.pick (Sx.keep HS.out hwi) 1 (by simp))
     have qy := hb.k22
     clear hb
     go_simp
     apply hK
     · rfl
     · conv => (lhs; whnf)
     · exact hwi
    simp only [put_lit, put_none]
    try dsimp only [List.set_cons_succ, List.set_cons_zero]
   exact Oblig.nil
  case h0 =>
   exact (Keep.refl _ _).drew
  case hend =>
   intro S wx hwi hall
   have hkx := hwi
   obtain ⟨w2, hwn⟩ : ∃ v, v = wx := ⟨_, rfl⟩
   rw [← hwn] at hkx ⊢
   have hs := hid (show Sx R w0 [refO B m t.W t.L, Ass.blk y 71 [i64 p.tt, i64 (p.s : Int), i64 p.g, i64 p.lm, i64 p.r, i64 (p.K : Int), .slice (some ⟨a.pb, 0, none⟩) p.P.length a.pc, .slice (some ⟨a.lb, 0, none⟩) p.LL.length a.lc, i64 (p.nd : Int), i64 p.n, i64 (p.th : Int), .slice (some ⟨a.hb, 0, none⟩) p.path.length a.hc, i64 (((3 : Nat) : Int)), i64 ((t.at_ : Nat)), ptr a.yc, pv, av, i64 (t.live), i64 (t.err), i64 (t.on), .bool false, i64 (t.ond)], rowO 3 1 (.slice (some ⟨a.pb, 0, none⟩) p.P.length a.pc) p.P.length (ints p.P), rowO 3 1 (.slice (some ⟨a.lb, 0, none⟩) p.LL.length a.lc) p.LL.length (ints p.LL), rowO 3 1 (.slice (some ⟨a.hb, 0, none⟩) p.path.length a.hc) p.path.length (ints (nats p.path)), r11O a.C p.K p.th a.yc t.cl] w2 from Sx.keep HS.out hkx)
   clear hwi hall hkx hwn HS qy
   have HS := hs
   clear hs
   go_wp2_with fail
   refine Calls.mono (Sx.call (q := refO B m (t.W.set k1 (p.nd * 2097152 + p.n)) (t.L ++ [⟨4, (k1 : Nat), p.nd * 2097152 + p.n, 0, false⟩])) (show Sx R w0 [refO B m t.W t.L, Ass.blk y 71 [i64 p.tt, i64 (p.s : Int), i64 p.g, i64 p.lm, i64 p.r, i64 (p.K : Int), .slice (some ⟨a.pb, 0, none⟩) p.P.length a.pc, .slice (some ⟨a.lb, 0, none⟩) p.LL.length a.lc, i64 (p.nd : Int), i64 p.n, i64 (p.th : Int), .slice (some ⟨a.hb, 0, none⟩) p.path.length a.hc, i64 (((3 : Nat) : Int)), i64 ((t.at_ : Nat)), ptr a.yc, pv, av, i64 (t.live), i64 (t.err), i64 (t.on), .bool false, i64 (t.ond)], rowO 3 1 (.slice (some ⟨a.pb, 0, none⟩) p.P.length a.pc) p.P.length (ints p.P), rowO 3 1 (.slice (some ⟨a.lb, 0, none⟩) p.LL.length a.lc) p.LL.length (ints p.LL), rowO 3 1 (.slice (some ⟨a.hb, 0, none⟩) p.path.length a.hc) p.path.length (ints (nats p.path)), r11O a.C p.K p.th a.yc t.cl] _ from (show Sx R w0 [refO B m t.W t.L, Ass.blk y 71 [i64 p.tt, i64 (p.s : Int), i64 p.g, i64 p.lm, i64 p.r, i64 (p.K : Int), .slice (some ⟨a.pb, 0, none⟩) p.P.length a.pc, .slice (some ⟨a.lb, 0, none⟩) p.LL.length a.lc, i64 (p.nd : Int), i64 p.n, i64 (p.th : Int), .slice (some ⟨a.hb, 0, none⟩) p.path.length a.hc, i64 (((3 : Nat) : Int)), i64 ((t.at_ : Nat)), ptr a.yc, pv, av, i64 (t.live), i64 (t.err), i64 (t.on), .bool false, i64 (t.ond)], rowO 3 1 (.slice (some ⟨a.pb, 0, none⟩) p.P.length a.pc) p.P.length (ints p.P), rowO 3 1 (.slice (some ⟨a.lb, 0, none⟩) p.LL.length a.lc) p.LL.length (ints p.LL), rowO 3 1 (.slice (some ⟨a.hb, 0, none⟩) p.path.length a.hc) p.path.length (ints (nats p.path)), r11O a.C p.K p.th a.yc t.cl] _ from by repeat (with_reducible first | exact HS.out | apply Sx.alloc | apply Sx.drewN | apply Sx.drew))) (fun Rq hr hz => refO_Store k1 (p.nd * 2097152 + p.n) hr (by omega) (by omega) hL)) ?_
   rintro e w3 ⟨rfl, hs⟩
   clear HS
   have HS := hid (show Sx R w0 [refO B m (t.W.set k1 (p.nd * 2097152 + p.n)) (t.L ++ [⟨4, (k1 : Nat), p.nd * 2097152 + p.n, 0, false⟩]), Ass.blk y 71 [i64 p.tt, i64 (p.s : Int), i64 p.g, i64 p.lm, i64 p.r, i64 (p.K : Int), .slice (some ⟨a.pb, 0, none⟩) p.P.length a.pc, .slice (some ⟨a.lb, 0, none⟩) p.LL.length a.lc, i64 (p.nd : Int), i64 p.n, i64 (p.th : Int), .slice (some ⟨a.hb, 0, none⟩) p.path.length a.hc, i64 (((3 : Nat) : Int)), i64 ((t.at_ : Nat)), ptr a.yc, pv, av, i64 (t.live), i64 (t.err), i64 (t.on), .bool false, i64 (t.ond)], rowO 3 1 (.slice (some ⟨a.pb, 0, none⟩) p.P.length a.pc) p.P.length (ints p.P), rowO 3 1 (.slice (some ⟨a.lb, 0, none⟩) p.LL.length a.lc) p.LL.length (ints p.LL), rowO 3 1 (.slice (some ⟨a.hb, 0, none⟩) p.path.length a.hc) p.path.length (ints (nats p.path)), r11O a.C p.K p.th a.yc t.cl] w3 from hs)
   clear hs
   obtain ⟨_, ⟨hb, _⟩, _⟩ := Sx.get (show Sx R w0 [Ass.blk y 71 [i64 p.tt, i64 (p.s : Int), i64 p.g, i64 p.lm, i64 p.r, i64 (p.K : Int), .slice (some ⟨a.pb, 0, none⟩) p.P.length a.pc, .slice (some ⟨a.lb, 0, none⟩) p.LL.length a.lc, i64 (p.nd : Int), i64 p.n, i64 (p.th : Int), .slice (some ⟨a.hb, 0, none⟩) p.path.length a.hc, i64 (((3 : Nat) : Int)), i64 ((t.at_ : Nat)), ptr a.yc, pv, av, i64 (t.live), i64 (t.err), i64 (t.on), .bool false, i64 (t.ond)], refO B m (t.W.set k1 (p.nd * 2097152 + p.n)) (t.L ++ [⟨4, (k1 : Nat), p.nd * 2097152 + p.n, 0, false⟩]), rowO 3 1 (.slice (some ⟨a.pb, 0, none⟩) p.P.length a.pc) p.P.length (ints p.P), rowO 3 1 (.slice (some ⟨a.lb, 0, none⟩) p.LL.length a.lc) p.LL.length (ints p.LL), rowO 3 1 (.slice (some ⟨a.hb, 0, none⟩) p.path.length a.hc) p.path.length (ints (nats p.path)), r11O a.C p.K p.th a.yc t.cl] w3 from (Sx.pick (show Sx R w0 [refO B m (t.W.set k1 (p.nd * 2097152 + p.n)) (t.L ++ [⟨4, (k1 : Nat), p.nd * 2097152 + p.n, 0, false⟩]), Ass.blk y 71 [i64 p.tt, i64 (p.s : Int), i64 p.g, i64 p.lm, i64 p.r, i64 (p.K : Int), .slice (some ⟨a.pb, 0, none⟩) p.P.length a.pc, .slice (some ⟨a.lb, 0, none⟩) p.LL.length a.lc, i64 (p.nd : Int), i64 p.n, i64 (p.th : Int), .slice (some ⟨a.hb, 0, none⟩) p.path.length a.hc, i64 (((3 : Nat) : Int)), i64 ((t.at_ : Nat)), ptr a.yc, pv, av, i64 (t.live), i64 (t.err), i64 (t.on), .bool false, i64 (t.ond)], rowO 3 1 (.slice (some ⟨a.pb, 0, none⟩) p.P.length a.pc) p.P.length (ints p.P), rowO 3 1 (.slice (some ⟨a.lb, 0, none⟩) p.LL.length a.lc) p.LL.length (ints p.LL), rowO 3 1 (.slice (some ⟨a.hb, 0, none⟩) p.path.length a.hc) p.path.length (ints (nats p.path)), r11O a.C p.K p.th a.yc t.cl] w3 from by repeat (with_reducible first | exact HS.out | apply Sx.alloc | apply Sx.drewN | apply Sx.drew)) 1 (by simp)))
   have qy := hb.k22
   clear hb
   go_wp2_with fail
   go_ret
   exact ⟨rfl, Sx.pick (show Sx R w0 [Ass.blk y 71 [i64 p.tt, i64 (p.s : Int), i64 p.g, i64 p.lm, i64 p.r, i64 (p.K : Int), .slice (some ⟨a.pb, 0, none⟩) p.P.length a.pc, .slice (some ⟨a.lb, 0, none⟩) p.LL.length a.lc, i64 (p.nd : Int), i64 p.n, i64 (p.th : Int), .slice (some ⟨a.hb, 0, none⟩) p.path.length a.hc, i64 (((4 : Nat) : Int)), i64 ((t.at_ : Nat)), ptr a.yc, pv, av, i64 (t.live), i64 (t.err), i64 (t.on), .bool false, i64 (t.ond)], refO B m (t.W.set k1 (p.nd * 2097152 + p.n)) (t.L ++ [⟨4, (k1 : Nat), p.nd * 2097152 + p.n, 0, false⟩]), rowO 3 1 (.slice (some ⟨a.pb, 0, none⟩) p.P.length a.pc) p.P.length (ints p.P), rowO 3 1 (.slice (some ⟨a.lb, 0, none⟩) p.LL.length a.lc) p.LL.length (ints p.LL), rowO 3 1 (.slice (some ⟨a.hb, 0, none⟩) p.path.length a.hc) p.path.length (ints (nats p.path)), r11O a.C p.K p.th a.yc t.cl] _ from (Sx.tr (show Sx R w0 [Ass.blk y 71 [i64 p.tt, i64 (p.s : Int), i64 p.g, i64 p.lm, i64 p.r, i64 (p.K : Int), .slice (some ⟨a.pb, 0, none⟩) p.P.length a.pc, .slice (some ⟨a.lb, 0, none⟩) p.LL.length a.lc, i64 (p.nd : Int), i64 p.n, i64 (p.th : Int), .slice (some ⟨a.hb, 0, none⟩) p.path.length a.hc, i64 (((3 : Nat) : Int)), i64 ((t.at_ : Nat)), ptr a.yc, pv, av, i64 (t.live), i64 (t.err), i64 (t.on), .bool false, i64 (t.ond)], refO B m (t.W.set k1 (p.nd * 2097152 + p.n)) (t.L ++ [⟨4, (k1 : Nat), p.nd * 2097152 + p.n, 0, false⟩]), rowO 3 1 (.slice (some ⟨a.pb, 0, none⟩) p.P.length a.pc) p.P.length (ints p.P), rowO 3 1 (.slice (some ⟨a.lb, 0, none⟩) p.LL.length a.lc) p.LL.length (ints p.LL), rowO 3 1 (.slice (some ⟨a.hb, 0, none⟩) p.path.length a.hc) p.path.length (ints (nats p.path)), r11O a.C p.K p.th a.yc t.cl] _ from (Sx.pick (show Sx R w0 [refO B m (t.W.set k1 (p.nd * 2097152 + p.n)) (t.L ++ [⟨4, (k1 : Nat), p.nd * 2097152 + p.n, 0, false⟩]), Ass.blk y 71 [i64 p.tt, i64 (p.s : Int), i64 p.g, i64 p.lm, i64 p.r, i64 (p.K : Int), .slice (some ⟨a.pb, 0, none⟩) p.P.length a.pc, .slice (some ⟨a.lb, 0, none⟩) p.LL.length a.lc, i64 (p.nd : Int), i64 p.n, i64 (p.th : Int), .slice (some ⟨a.hb, 0, none⟩) p.path.length a.hc, i64 (((3 : Nat) : Int)), i64 ((t.at_ : Nat)), ptr a.yc, pv, av, i64 (t.live), i64 (t.err), i64 (t.on), .bool false, i64 (t.ond)], rowO 3 1 (.slice (some ⟨a.pb, 0, none⟩) p.P.length a.pc) p.P.length (ints p.P), rowO 3 1 (.slice (some ⟨a.lb, 0, none⟩) p.LL.length a.lc) p.LL.length (ints p.LL), rowO 3 1 (.slice (some ⟨a.hb, 0, none⟩) p.path.length a.hc) p.path.length (ints (nats p.path)), r11O a.C p.K p.th a.yc t.cl] _ from by repeat (with_reducible first | exact HS.out | apply Sx.alloc | apply Sx.drewN | apply Sx.drew)) 1 (by simp))) (fun Rq hr => blk_store hr 12 (i64 4)))) 1 (by simp)⟩
set_option maxHeartbeats 4000000 in
theorem r12_step6 (hp : P12OK p) (hn : t.cl.n < p.K) (h : (stars (refO B m t.W t.L :: [Ass.blk y 71 [i64 p.tt, i64 (p.s : Int), i64 p.g, i64 p.lm, i64 p.r, i64 (p.K : Int), .slice (some ⟨a.pb, 0, none⟩) p.P.length a.pc, .slice (some ⟨a.lb, 0, none⟩) p.LL.length a.lc, i64 (p.nd : Int), i64 p.n, i64 (p.th : Int), .slice (some ⟨a.hb, 0, none⟩) p.path.length a.hc, i64 (((6 : Nat) : Int)), i64 ((t.at_ : Nat)), ptr a.yc, pv, av, i64 (t.live), i64 (t.err), i64 (t.on), .bool false, i64 (t.ond)], rowO 3 1 (.slice (some ⟨a.pb, 0, none⟩) p.P.length a.pc) p.P.length (ints p.P), rowO 3 1 (.slice (some ⟨a.lb, 0, none⟩) p.LL.length a.lc) p.LL.length (ints p.LL), rowO 3 1 (.slice (some ⟨a.hb, 0, none⟩) p.path.length a.hc) p.path.length (ints (nats p.path)), r11O a.C p.K p.th a.yc t.cl])).At R w) : Calls Try.prog 37 #[ptr y, ptr m] w fun e w' => e = .returned (.bool true) ∧ Tr (stars (refO B m t.W t.L :: [Ass.blk y 71 [i64 p.tt, i64 (p.s : Int), i64 p.g, i64 p.lm, i64 p.r, i64 (p.K : Int), .slice (some ⟨a.pb, 0, none⟩) p.P.length a.pc, .slice (some ⟨a.lb, 0, none⟩) p.LL.length a.lc, i64 (p.nd : Int), i64 p.n, i64 (p.th : Int), .slice (some ⟨a.hb, 0, none⟩) p.path.length a.hc, i64 (((6 : Nat) : Int)), i64 ((t.at_ : Nat)), ptr a.yc, pv, av, i64 (t.live), i64 (t.err), i64 (t.on), .bool false, i64 (t.ond)], rowO 3 1 (.slice (some ⟨a.pb, 0, none⟩) p.P.length a.pc) p.P.length (ints p.P), rowO 3 1 (.slice (some ⟨a.lb, 0, none⟩) p.LL.length a.lc) p.LL.length (ints p.LL), rowO 3 1 (.slice (some ⟨a.hb, 0, none⟩) p.path.length a.hc) p.path.length (ints (nats p.path)), r11O a.C p.K p.th a.yc t.cl])) R w w' := by
 obtain ⟨w0, hw0⟩ : ∃ v, v = w := ⟨_, rfl⟩
 rw [← hw0] at h ⊢
 have HS := hid (show Sx R w0 [refO B m t.W t.L, Ass.blk y 71 [i64 p.tt, i64 (p.s : Int), i64 p.g, i64 p.lm, i64 p.r, i64 (p.K : Int), .slice (some ⟨a.pb, 0, none⟩) p.P.length a.pc, .slice (some ⟨a.lb, 0, none⟩) p.LL.length a.lc, i64 (p.nd : Int), i64 p.n, i64 (p.th : Int), .slice (some ⟨a.hb, 0, none⟩) p.path.length a.hc, i64 (((6 : Nat) : Int)), i64 ((t.at_ : Nat)), ptr a.yc, pv, av, i64 (t.live), i64 (t.err), i64 (t.on), .bool false, i64 (t.ond)], rowO 3 1 (.slice (some ⟨a.pb, 0, none⟩) p.P.length a.pc) p.P.length (ints p.P), rowO 3 1 (.slice (some ⟨a.lb, 0, none⟩) p.LL.length a.lc) p.LL.length (ints p.LL), rowO 3 1 (.slice (some ⟨a.hb, 0, none⟩) p.path.length a.hc) p.path.length (ints (nats p.path)), r11O a.C p.K p.th a.yc t.cl] w0 from Sx.start h)
 clear h hw0
 have hs8 := hp.s8
 have hp1 := hp.p1
 have hk1 := hp.k1
 obtain ⟨ae, hae⟩ : ∃ ae : Int, ae = (if t.cl.fin = 2 then 3 else 0) := ⟨_, rfl⟩
 have HAE := hid hae
 clear hae
 have htk0 := fun w' => ref_Ticket p.tt p.s p.g p.lm p.r p.K (some ⟨a.pb, 0, none⟩) p.P.length a.pc (some ⟨a.lb, 0, none⟩) p.LL.length a.lc (t.cl.n : Int) w' (by omega) (by omega) (by omega) (by omega) (by omega)
 rw [show (p.P.length : Int) * (6 + 2 * (p.s : Int)) + 2 * (t.cl.n : Int) = ((t.tk p : Nat) : Int) from by unfold S12.tk P12.q; push_cast; rfl] at htk0
 have HTK := hid htk0
 clear htk0
 go_enter Try.func37, Try.ntmps37
 go_upto_region 1 with fail
 apply wp_region_text (WI := fun S wx => Keep0 w0 wx) (by kernel_rfl) (by kernel_rfl)
 case hob =>
  iterate 8
   apply Oblig.cons
   case h =>
    intro S w1 hwi hSi hd hcl
    apply StepOk.intro
    intro K hK
    obtain ⟨_, ⟨hb, _⟩, _⟩ := Sx.get (Sx.pick (Sx.keep HS.out hwi) 1 (by simp))
    have qy := hb.k22
    clear hb
    obtain ⟨_, ⟨hcl, _⟩, _⟩ := Sx.get (Sx.pick (Sx.keep HS.out hwi) 5 (by simp))
    go_simp
    apply hK
    · rfl
    · conv => (lhs; whnf)
    · exact hwi
   simp only [put_lit, put_none]
   try dsimp only [List.set_cons_succ, List.set_cons_zero]
  apply Oblig.cons
  case h =>
   intro S w1 hwi hSi hd hcl
   apply StepOk.intro
   intro K hK
   obtain ⟨_, ⟨hb, _⟩, _⟩ := Sx.get (Sx.pick (Sx.keep HS.out hwi) 1 (by simp))
   have qy := hb.k22
   clear hb
   obtain ⟨_, ⟨hcl, _⟩, _⟩ := Sx.get (Sx.pick (Sx.keep HS.out hwi) 5 (by simp))
   go_simp
   refine (show Calls Try.prog 52 _ w1 (Ret (.agg #[i64 ae, i64 (t.cl.n : Int), .bool false, i64 0]) w1) from by have h := r11_Ans t.cl hcl; unfold clAns at h; rw [← HAE.out] at h; exact h).mono ?_
   rintro e w2 ⟨rfl, hk⟩
   apply hK
   · rfl
   · conv => (lhs; whnf)
   · exact Keep0.step hwi hk
  simp only [put_lit, put_none]
  try dsimp only [List.set_cons_succ, List.set_cons_zero]
  apply Oblig.cons
  case h =>
   intro S w1 hwi hSi hd hcl
   apply StepOk.intro
   intro K hK
   obtain ⟨_, ⟨hb, _⟩, _⟩ := Sx.get (Sx.pick (Sx.keep HS.out hwi) 1 (by simp))
   have qy := hb.k22
   clear hb
   obtain ⟨_, ⟨hcl, _⟩, _⟩ := Sx.get (Sx.pick (Sx.keep HS.out hwi) 5 (by simp))
   go_simp
   apply hK
   · rfl
   · conv => (lhs; whnf)
   · exact hwi
  simp only [put_lit, put_none]
  try dsimp only [List.set_cons_succ, List.set_cons_zero]
  apply Oblig.cons
  case h =>
   intro S w1 hwi hSi hd hcl
   apply StepOk.intro
   intro K hK
   go_simp
   refine (HTK.out _).mono ?_
   rintro e w2 ⟨rfl, hk⟩
   apply hK
   · rfl
   · conv => (lhs; whnf)
   · exact Keep0.step hwi hk
  simp only [put_lit, put_none]
  try dsimp only [List.set_cons_succ, List.set_cons_zero]
  apply Oblig.cons
  case h =>
   intro S w1 hwi hSi hd hcl
   apply StepOk.intro
   intro K hK
   obtain ⟨_, ⟨hb, _⟩, _⟩ := Sx.get (Sx.pick (Sx.keep HS.out hwi) 1 (by simp))
   have qy := hb.k22
   clear hb
   obtain ⟨_, ⟨hcl, _⟩, _⟩ := Sx.get (Sx.pick (Sx.keep HS.out hwi) 5 (by simp))
   go_simp
   apply hK
   · rfl
   · conv => (lhs; whnf)
   · exact hwi
  simp only [put_lit, put_none]
  try dsimp only [List.set_cons_succ, List.set_cons_zero]
  exact Oblig.nil
 case h0 =>
  exact (Keep.refl _ _).drew
 case hend =>
  intro S wx hwi hall
  have hkx := hwi
  obtain ⟨w1, hwn⟩ : ∃ v, v = wx := ⟨_, rfl⟩
  rw [← hwn] at hkx ⊢
  have hs := hid (show Sx R w0 [refO B m t.W t.L, Ass.blk y 71 [i64 p.tt, i64 (p.s : Int), i64 p.g, i64 p.lm, i64 p.r, i64 (p.K : Int), .slice (some ⟨a.pb, 0, none⟩) p.P.length a.pc, .slice (some ⟨a.lb, 0, none⟩) p.LL.length a.lc, i64 (p.nd : Int), i64 p.n, i64 (p.th : Int), .slice (some ⟨a.hb, 0, none⟩) p.path.length a.hc, i64 (((6 : Nat) : Int)), i64 ((t.at_ : Nat)), ptr a.yc, pv, av, i64 (t.live), i64 (t.err), i64 (t.on), .bool false, i64 (t.ond)], rowO 3 1 (.slice (some ⟨a.pb, 0, none⟩) p.P.length a.pc) p.P.length (ints p.P), rowO 3 1 (.slice (some ⟨a.lb, 0, none⟩) p.LL.length a.lc) p.LL.length (ints p.LL), rowO 3 1 (.slice (some ⟨a.hb, 0, none⟩) p.path.length a.hc) p.path.length (ints (nats p.path)), r11O a.C p.K p.th a.yc t.cl] w1 from Sx.keep HS.out hkx)
  clear hwi hall hkx hwn HS
  have HS := hs
  clear hs
  obtain ⟨_, ⟨hb, _⟩, _⟩ := Sx.get (show Sx R w0 [Ass.blk y 71 [i64 p.tt, i64 (p.s : Int), i64 p.g, i64 p.lm, i64 p.r, i64 (p.K : Int), .slice (some ⟨a.pb, 0, none⟩) p.P.length a.pc, .slice (some ⟨a.lb, 0, none⟩) p.LL.length a.lc, i64 (p.nd : Int), i64 p.n, i64 (p.th : Int), .slice (some ⟨a.hb, 0, none⟩) p.path.length a.hc, i64 (((6 : Nat) : Int)), i64 ((t.at_ : Nat)), ptr a.yc, pv, av, i64 (t.live), i64 (t.err), i64 (t.on), .bool false, i64 (t.ond)], refO B m t.W t.L, rowO 3 1 (.slice (some ⟨a.pb, 0, none⟩) p.P.length a.pc) p.P.length (ints p.P), rowO 3 1 (.slice (some ⟨a.lb, 0, none⟩) p.LL.length a.lc) p.LL.length (ints p.LL), rowO 3 1 (.slice (some ⟨a.hb, 0, none⟩) p.path.length a.hc) p.path.length (ints (nats p.path)), r11O a.C p.K p.th a.yc t.cl] w1 from (Sx.pick (show Sx R w0 [refO B m t.W t.L, Ass.blk y 71 [i64 p.tt, i64 (p.s : Int), i64 p.g, i64 p.lm, i64 p.r, i64 (p.K : Int), .slice (some ⟨a.pb, 0, none⟩) p.P.length a.pc, .slice (some ⟨a.lb, 0, none⟩) p.LL.length a.lc, i64 (p.nd : Int), i64 p.n, i64 (p.th : Int), .slice (some ⟨a.hb, 0, none⟩) p.path.length a.hc, i64 (((6 : Nat) : Int)), i64 ((t.at_ : Nat)), ptr a.yc, pv, av, i64 (t.live), i64 (t.err), i64 (t.on), .bool false, i64 (t.ond)], rowO 3 1 (.slice (some ⟨a.pb, 0, none⟩) p.P.length a.pc) p.P.length (ints p.P), rowO 3 1 (.slice (some ⟨a.lb, 0, none⟩) p.LL.length a.lc) p.LL.length (ints p.LL), rowO 3 1 (.slice (some ⟨a.hb, 0, none⟩) p.path.length a.hc) p.path.length (ints (nats p.path)), r11O a.C p.K p.th a.yc t.cl] w1 from by repeat (with_reducible first | exact HS.out | apply Sx.alloc | apply Sx.drewN | apply Sx.drew)) 1 (by simp)))
  have qy := hb.k22
  clear hb
  go_wp2_with fail
  go_ret
  exact ⟨rfl, HS.out⟩
set_option maxHeartbeats 4000000 in
theorem r12_step2 (hp : P12OK p) (hn : t.cl.n < p.K) (ha : 0 < t.at_) (ha2 : t.at_ ≤ p.path.length) (hW : t.W.length ≤ 10000) (hq : p.q ≤ t.W.length) (hL : t.L.length ≤ 1000000000) (h : (stars (refO B m t.W t.L :: [Ass.blk y 71 [i64 p.tt, i64 (p.s : Int), i64 p.g, i64 p.lm, i64 p.r, i64 (p.K : Int), .slice (some ⟨a.pb, 0, none⟩) p.P.length a.pc, .slice (some ⟨a.lb, 0, none⟩) p.LL.length a.lc, i64 (p.nd : Int), i64 p.n, i64 (p.th : Int), .slice (some ⟨a.hb, 0, none⟩) p.path.length a.hc, i64 (((2 : Nat) : Int)), i64 ((t.at_ : Nat)), ptr a.yc, pv, av, i64 (t.live), i64 (t.err), i64 (t.on), .bool false, i64 (t.ond)], rowO 3 1 (.slice (some ⟨a.pb, 0, none⟩) p.P.length a.pc) p.P.length (ints p.P), rowO 3 1 (.slice (some ⟨a.lb, 0, none⟩) p.LL.length a.lc) p.LL.length (ints p.LL), rowO 3 1 (.slice (some ⟨a.hb, 0, none⟩) p.path.length a.hc) p.path.length (ints (nats p.path)), r11O a.C p.K p.th a.yc t.cl])).At R w) :
 Calls Try.prog 37 #[ptr y, ptr m] w fun e w' => e = .returned (.bool false) ∧ Tr (stars ((refO B m (t.W.set (p.av (p.v (t.at_ - 1))) (wrap64 (rd t.W (p.av (p.v (t.at_ - 1))) + p.n))) (t.L ++ [⟨2, (p.av (p.v (t.at_ - 1)) : Nat), p.n, wrap64 (rd t.W (p.av (p.v (t.at_ - 1))) + p.n), false⟩])) :: [Ass.blk y 71 [i64 p.tt, i64 (p.s : Int), i64 p.g, i64 p.lm, i64 p.r, i64 (p.K : Int), .slice (some ⟨a.pb, 0, none⟩) p.P.length a.pc, .slice (some ⟨a.lb, 0, none⟩) p.LL.length a.lc, i64 (p.nd : Int), i64 p.n, i64 (p.th : Int), .slice (some ⟨a.hb, 0, none⟩) p.path.length a.hc, i64 (((2 : Nat) : Int)), i64 (((t.at_ - 1 : Nat) : Int)), ptr a.yc, pv, av, i64 (t.live), i64 (t.err), i64 (t.on), .bool false, i64 (t.ond)], rowO 3 1 (.slice (some ⟨a.pb, 0, none⟩) p.P.length a.pc) p.P.length (ints p.P), rowO 3 1 (.slice (some ⟨a.lb, 0, none⟩) p.LL.length a.lc) p.LL.length (ints p.LL), rowO 3 1 (.slice (some ⟨a.hb, 0, none⟩) p.path.length a.hc) p.path.length (ints (nats p.path)), r11O a.C p.K p.th a.yc t.cl])) R w w' := by
 have hh1 := hp.h1
 obtain ⟨w0, hw0⟩ : ∃ v, v = w := ⟨_, rfl⟩
 rw [← hw0] at h ⊢
 have HS := hid (show Sx R w0 [refO B m t.W t.L, Ass.blk y 71 [i64 p.tt, i64 (p.s : Int), i64 p.g, i64 p.lm, i64 p.r, i64 (p.K : Int), .slice (some ⟨a.pb, 0, none⟩) p.P.length a.pc, .slice (some ⟨a.lb, 0, none⟩) p.LL.length a.lc, i64 (p.nd : Int), i64 p.n, i64 (p.th : Int), .slice (some ⟨a.hb, 0, none⟩) p.path.length a.hc, i64 (((2 : Nat) : Int)), i64 ((t.at_ : Nat)), ptr a.yc, pv, av, i64 (t.live), i64 (t.err), i64 (t.on), .bool false, i64 (t.ond)], rowO 3 1 (.slice (some ⟨a.pb, 0, none⟩) p.P.length a.pc) p.P.length (ints p.P), rowO 3 1 (.slice (some ⟨a.lb, 0, none⟩) p.LL.length a.lc) p.LL.length (ints p.LL), rowO 3 1 (.slice (some ⟨a.hb, 0, none⟩) p.path.length a.hc) p.path.length (ints (nats p.path)), r11O a.C p.K p.th a.yc t.cl] w0 from Sx.start h)
 clear h hw0
 obtain ⟨i1, hi1⟩ : ∃ i, i = t.at_ - 1 := ⟨_, rfl⟩
 rw [← hi1]
 have y1 : IntKind.i64.wrap ((t.at_ : Int) - 1) = (i1 : Int) := by rw [IntWalk.i64_in _ (by omega)]; omega
 have hil : i1 < p.path.length := by omega
 have g1 : (0 < t.at_) = True := eq_true ha
 clear hi1
 have hv := hp.v1 hil
 have hpl := hp.p1
 have hsq := hp.s8
 have hav0 := fun w' => ref_Avail p.tt p.s p.g p.lm p.r p.K (some ⟨a.pb, 0, none⟩) p.P.length a.pc (some ⟨a.lb, 0, none⟩) p.LL.length a.lc (p.v i1 : Int) w' (by omega) (by omega) (by omega) (by omega)
 rw [show (p.v i1 : Int) * (6 + 2 * (p.s : Int)) + 1 = ((p.av (p.v i1) : Nat) : Int) from by unfold P12.av; push_cast; rfl] at hav0
 have HAV := hid hav0
 have havl := hp.av_lt hv
 clear hav0
 have hs8 := hp.s8
 have hp1 := hp.p1
 have hk1 := hp.k1
 obtain ⟨ae, hae⟩ : ∃ ae : Int, ae = (if t.cl.fin = 2 then 3 else 0) := ⟨_, rfl⟩
 have HAE := hid hae
 clear hae
 have htk0 := fun w' => ref_Ticket p.tt p.s p.g p.lm p.r p.K (some ⟨a.pb, 0, none⟩) p.P.length a.pc (some ⟨a.lb, 0, none⟩) p.LL.length a.lc (t.cl.n : Int) w' (by omega) (by omega) (by omega) (by omega) (by omega)
 rw [show (p.P.length : Int) * (6 + 2 * (p.s : Int)) + 2 * (t.cl.n : Int) = ((t.tk p : Nat) : Int) from by unfold S12.tk P12.q; push_cast; rfl] at htk0
 have HTK := hid htk0
 clear htk0
 go_enter Try.func37, Try.ntmps37
 go_upto_region 1 with fail
 apply wp_region_text (WI := fun S wx => Keep0 w0 wx) (by kernel_rfl) (by kernel_rfl)
 case hob =>
  iterate 8
   apply Oblig.cons
   case h =>
    intro S w1 hwi hSi hd hcl
    apply StepOk.intro
    intro K hK
    obtain ⟨_, ⟨hb, _⟩, _⟩ := Sx.get (Sx.pick (Sx.keep HS.out hwi) 1 (by simp))
    have qy := hb.k22
    clear hb
    obtain ⟨_, ⟨hcl, _⟩, _⟩ := Sx.get (Sx.pick (Sx.keep HS.out hwi) 5 (by simp))
    go_simp
    apply hK
    · rfl
    · conv => (lhs; whnf)
    · exact hwi
   simp only [put_lit, put_none]
   try dsimp only [List.set_cons_succ, List.set_cons_zero]
  apply Oblig.cons
  case h =>
   intro S w1 hwi hSi hd hcl
   apply StepOk.intro
   intro K hK
   obtain ⟨_, ⟨hb, _⟩, _⟩ := Sx.get (Sx.pick (Sx.keep HS.out hwi) 1 (by simp))
   have qy := hb.k22
   clear hb
   obtain ⟨_, ⟨hcl, _⟩, _⟩ := Sx.get (Sx.pick (Sx.keep HS.out hwi) 5 (by simp))
   go_simp
   refine (show Calls Try.prog 52 _ w1 (Ret (.agg #[i64 ae, i64 (t.cl.n : Int), .bool false, i64 0]) w1) from by have h := r11_Ans t.cl hcl; unfold clAns at h; rw [← HAE.out] at h; exact h).mono ?_
   rintro e w2 ⟨rfl, hk⟩
   apply hK
   · rfl
   · conv => (lhs; whnf)
   · exact Keep0.step hwi hk
  simp only [put_lit, put_none]
  try dsimp only [List.set_cons_succ, List.set_cons_zero]
  apply Oblig.cons
  case h =>
   intro S w1 hwi hSi hd hcl
   apply StepOk.intro
   intro K hK
   obtain ⟨_, ⟨hb, _⟩, _⟩ := Sx.get (Sx.pick (Sx.keep HS.out hwi) 1 (by simp))
   have qy := hb.k22
   clear hb
   obtain ⟨_, ⟨hcl, _⟩, _⟩ := Sx.get (Sx.pick (Sx.keep HS.out hwi) 5 (by simp))
   go_simp
   apply hK
   · rfl
   · conv => (lhs; whnf)
   · exact hwi
  simp only [put_lit, put_none]
  try dsimp only [List.set_cons_succ, List.set_cons_zero]
  apply Oblig.cons
  case h =>
   intro S w1 hwi hSi hd hcl
   apply StepOk.intro
   intro K hK
   go_simp
   refine (HTK.out _).mono ?_
   rintro e w2 ⟨rfl, hk⟩
   apply hK
   · rfl
   · conv => (lhs; whnf)
   · exact Keep0.step hwi hk
  simp only [put_lit, put_none]
  try dsimp only [List.set_cons_succ, List.set_cons_zero]
  apply Oblig.cons
  case h =>
   intro S w1 hwi hSi hd hcl
   apply StepOk.intro
   intro K hK
   obtain ⟨_, ⟨hb, _⟩, _⟩ := Sx.get (Sx.pick (Sx.keep HS.out hwi) 1 (by simp))
   have qy := hb.k22
   clear hb
   obtain ⟨_, ⟨hcl, _⟩, _⟩ := Sx.get (Sx.pick (Sx.keep HS.out hwi) 5 (by simp))
   go_simp
   apply hK
   · rfl
   · conv => (lhs; whnf)
   · exact hwi
  simp only [put_lit, put_none]
  try dsimp only [List.set_cons_succ, List.set_cons_zero]
  exact Oblig.nil
 case h0 =>
  exact (Keep.refl _ _).drew
 case hend =>
  intro S wx hwi hall
  have hkx := hwi
  obtain ⟨w1, hwn⟩ : ∃ v, v = wx := ⟨_, rfl⟩
  rw [← hwn] at hkx ⊢
  have hs := hid (show Sx R w0 [refO B m t.W t.L, Ass.blk y 71 [i64 p.tt, i64 (p.s : Int), i64 p.g, i64 p.lm, i64 p.r, i64 (p.K : Int), .slice (some ⟨a.pb, 0, none⟩) p.P.length a.pc, .slice (some ⟨a.lb, 0, none⟩) p.LL.length a.lc, i64 (p.nd : Int), i64 p.n, i64 (p.th : Int), .slice (some ⟨a.hb, 0, none⟩) p.path.length a.hc, i64 (((2 : Nat) : Int)), i64 ((t.at_ : Nat)), ptr a.yc, pv, av, i64 (t.live), i64 (t.err), i64 (t.on), .bool false, i64 (t.ond)], rowO 3 1 (.slice (some ⟨a.pb, 0, none⟩) p.P.length a.pc) p.P.length (ints p.P), rowO 3 1 (.slice (some ⟨a.lb, 0, none⟩) p.LL.length a.lc) p.LL.length (ints p.LL), rowO 3 1 (.slice (some ⟨a.hb, 0, none⟩) p.path.length a.hc) p.path.length (ints (nats p.path)), r11O a.C p.K p.th a.yc t.cl] w1 from Sx.keep HS.out hkx)
  clear hwi hall hkx hwn HS
  have HS := hs
  clear hs
  obtain ⟨_, ⟨hb, _⟩, _⟩ := Sx.get (show Sx R w0 [Ass.blk y 71 [i64 p.tt, i64 (p.s : Int), i64 p.g, i64 p.lm, i64 p.r, i64 (p.K : Int), .slice (some ⟨a.pb, 0, none⟩) p.P.length a.pc, .slice (some ⟨a.lb, 0, none⟩) p.LL.length a.lc, i64 (p.nd : Int), i64 p.n, i64 (p.th : Int), .slice (some ⟨a.hb, 0, none⟩) p.path.length a.hc, i64 (((2 : Nat) : Int)), i64 ((t.at_ : Nat)), ptr a.yc, pv, av, i64 (t.live), i64 (t.err), i64 (t.on), .bool false, i64 (t.ond)], refO B m t.W t.L, rowO 3 1 (.slice (some ⟨a.pb, 0, none⟩) p.P.length a.pc) p.P.length (ints p.P), rowO 3 1 (.slice (some ⟨a.lb, 0, none⟩) p.LL.length a.lc) p.LL.length (ints p.LL), rowO 3 1 (.slice (some ⟨a.hb, 0, none⟩) p.path.length a.hc) p.path.length (ints (nats p.path)), r11O a.C p.K p.th a.yc t.cl] w1 from (Sx.pick (show Sx R w0 [refO B m t.W t.L, Ass.blk y 71 [i64 p.tt, i64 (p.s : Int), i64 p.g, i64 p.lm, i64 p.r, i64 (p.K : Int), .slice (some ⟨a.pb, 0, none⟩) p.P.length a.pc, .slice (some ⟨a.lb, 0, none⟩) p.LL.length a.lc, i64 (p.nd : Int), i64 p.n, i64 (p.th : Int), .slice (some ⟨a.hb, 0, none⟩) p.path.length a.hc, i64 (((2 : Nat) : Int)), i64 ((t.at_ : Nat)), ptr a.yc, pv, av, i64 (t.live), i64 (t.err), i64 (t.on), .bool false, i64 (t.ond)], rowO 3 1 (.slice (some ⟨a.pb, 0, none⟩) p.P.length a.pc) p.P.length (ints p.P), rowO 3 1 (.slice (some ⟨a.lb, 0, none⟩) p.LL.length a.lc) p.LL.length (ints p.LL), rowO 3 1 (.slice (some ⟨a.hb, 0, none⟩) p.path.length a.hc) p.path.length (ints (nats p.path)), r11O a.C p.K p.th a.yc t.cl] w1 from by repeat (with_reducible first | exact HS.out | apply Sx.alloc | apply Sx.drewN | apply Sx.drew)) 1 (by simp)))
  have qy := hb.k22
  clear hb
  go_upto_region 12 with fail
  obtain ⟨w2, hwn⟩ : ∃ v, v = (w1).setCell ⟨y, 13, none⟩ (i64 (i1 : Int)) := ⟨_, rfl⟩
  rw [← hwn]
  have hs := hid (show Sx R w0 [Ass.blk y 71 [i64 p.tt, i64 (p.s : Int), i64 p.g, i64 p.lm, i64 p.r, i64 (p.K : Int), .slice (some ⟨a.pb, 0, none⟩) p.P.length a.pc, .slice (some ⟨a.lb, 0, none⟩) p.LL.length a.lc, i64 (p.nd : Int), i64 p.n, i64 (p.th : Int), .slice (some ⟨a.hb, 0, none⟩) p.path.length a.hc, i64 (((2 : Nat) : Int)), i64 ((i1 : Int)), ptr a.yc, pv, av, i64 (t.live), i64 (t.err), i64 (t.on), .bool false, i64 (t.ond)], refO B m t.W t.L, rowO 3 1 (.slice (some ⟨a.pb, 0, none⟩) p.P.length a.pc) p.P.length (ints p.P), rowO 3 1 (.slice (some ⟨a.lb, 0, none⟩) p.LL.length a.lc) p.LL.length (ints p.LL), rowO 3 1 (.slice (some ⟨a.hb, 0, none⟩) p.path.length a.hc) p.path.length (ints (nats p.path)), r11O a.C p.K p.th a.yc t.cl] w2 from by rw [hwn]; exact (Sx.tr (show Sx R w0 [Ass.blk y 71 [i64 p.tt, i64 (p.s : Int), i64 p.g, i64 p.lm, i64 p.r, i64 (p.K : Int), .slice (some ⟨a.pb, 0, none⟩) p.P.length a.pc, .slice (some ⟨a.lb, 0, none⟩) p.LL.length a.lc, i64 (p.nd : Int), i64 p.n, i64 (p.th : Int), .slice (some ⟨a.hb, 0, none⟩) p.path.length a.hc, i64 (((2 : Nat) : Int)), i64 ((t.at_ : Nat)), ptr a.yc, pv, av, i64 (t.live), i64 (t.err), i64 (t.on), .bool false, i64 (t.ond)], refO B m t.W t.L, rowO 3 1 (.slice (some ⟨a.pb, 0, none⟩) p.P.length a.pc) p.P.length (ints p.P), rowO 3 1 (.slice (some ⟨a.lb, 0, none⟩) p.LL.length a.lc) p.LL.length (ints p.LL), rowO 3 1 (.slice (some ⟨a.hb, 0, none⟩) p.path.length a.hc) p.path.length (ints (nats p.path)), r11O a.C p.K p.th a.yc t.cl] _ from (Sx.pick (show Sx R w0 [refO B m t.W t.L, Ass.blk y 71 [i64 p.tt, i64 (p.s : Int), i64 p.g, i64 p.lm, i64 p.r, i64 (p.K : Int), .slice (some ⟨a.pb, 0, none⟩) p.P.length a.pc, .slice (some ⟨a.lb, 0, none⟩) p.LL.length a.lc, i64 (p.nd : Int), i64 p.n, i64 (p.th : Int), .slice (some ⟨a.hb, 0, none⟩) p.path.length a.hc, i64 (((2 : Nat) : Int)), i64 ((t.at_ : Nat)), ptr a.yc, pv, av, i64 (t.live), i64 (t.err), i64 (t.on), .bool false, i64 (t.ond)], rowO 3 1 (.slice (some ⟨a.pb, 0, none⟩) p.P.length a.pc) p.P.length (ints p.P), rowO 3 1 (.slice (some ⟨a.lb, 0, none⟩) p.LL.length a.lc) p.LL.length (ints p.LL), rowO 3 1 (.slice (some ⟨a.hb, 0, none⟩) p.path.length a.hc) p.path.length (ints (nats p.path)), r11O a.C p.K p.th a.yc t.cl] _ from by repeat (with_reducible first | exact HS.out | apply Sx.alloc | apply Sx.drewN | apply Sx.drew)) 1 (by simp))) (fun Rq hr => blk_store hr 13 (i64 (i1 : Int)))))
  clear HS hwn
  have HS := hs
  clear hs
  clear qy g1 y1
  have hs := hid (show Sx R w0 [refO B m t.W t.L, Ass.blk y 71 [i64 p.tt, i64 (p.s : Int), i64 p.g, i64 p.lm, i64 p.r, i64 (p.K : Int), .slice (some ⟨a.pb, 0, none⟩) p.P.length a.pc, .slice (some ⟨a.lb, 0, none⟩) p.LL.length a.lc, i64 (p.nd : Int), i64 p.n, i64 (p.th : Int), .slice (some ⟨a.hb, 0, none⟩) p.path.length a.hc, i64 (((2 : Nat) : Int)), i64 ((i1 : Int)), ptr a.yc, pv, av, i64 (t.live), i64 (t.err), i64 (t.on), .bool false, i64 (t.ond)], rowO 3 1 (.slice (some ⟨a.pb, 0, none⟩) p.P.length a.pc) p.P.length (ints p.P), rowO 3 1 (.slice (some ⟨a.lb, 0, none⟩) p.LL.length a.lc) p.LL.length (ints p.LL), rowO 3 1 (.slice (some ⟨a.hb, 0, none⟩) p.path.length a.hc) p.path.length (ints (nats p.path)), r11O a.C p.K p.th a.yc t.cl] w2 from (Sx.pick (Sx.pick (Sx.pick (Sx.pick (Sx.pick (Sx.pick (show Sx R w0 [Ass.blk y 71 [i64 p.tt, i64 (p.s : Int), i64 p.g, i64 p.lm, i64 p.r, i64 (p.K : Int), .slice (some ⟨a.pb, 0, none⟩) p.P.length a.pc, .slice (some ⟨a.lb, 0, none⟩) p.LL.length a.lc, i64 (p.nd : Int), i64 p.n, i64 (p.th : Int), .slice (some ⟨a.hb, 0, none⟩) p.path.length a.hc, i64 (((2 : Nat) : Int)), i64 ((i1 : Int)), ptr a.yc, pv, av, i64 (t.live), i64 (t.err), i64 (t.on), .bool false, i64 (t.ond)], refO B m t.W t.L, rowO 3 1 (.slice (some ⟨a.pb, 0, none⟩) p.P.length a.pc) p.P.length (ints p.P), rowO 3 1 (.slice (some ⟨a.lb, 0, none⟩) p.LL.length a.lc) p.LL.length (ints p.LL), rowO 3 1 (.slice (some ⟨a.hb, 0, none⟩) p.path.length a.hc) p.path.length (ints (nats p.path)), r11O a.C p.K p.th a.yc t.cl] w2 from by repeat (with_reducible first | exact HS.out | apply Sx.alloc | apply Sx.drewN | apply Sx.drew)) 5 (by simp)) 5 (by simp)) 5 (by simp)) 5 (by simp)) 4 (by simp)) 5 (by simp)))
  clear HS
  have HS := hs
  clear hs
  apply wp_region_text (WI := CA 20 (fun wx => Sx R w0 [refO B m t.W t.L, Ass.blk y 71 [i64 p.tt, i64 (p.s : Int), i64 p.g, i64 p.lm, i64 p.r, i64 (p.K : Int), .slice (some ⟨a.pb, 0, none⟩) p.P.length a.pc, .slice (some ⟨a.lb, 0, none⟩) p.LL.length a.lc, i64 (p.nd : Int), i64 p.n, i64 (p.th : Int), .slice (some ⟨a.hb, 0, none⟩) p.path.length a.hc, i64 (((2 : Nat) : Int)), i64 ((i1 : Int)), ptr a.yc, pv, av, i64 (t.live), i64 (t.err), i64 (t.on), .bool false, i64 (t.ond)], rowO 3 1 (.slice (some ⟨a.pb, 0, none⟩) p.P.length a.pc) p.P.length (ints p.P), rowO 3 1 (.slice (some ⟨a.lb, 0, none⟩) p.LL.length a.lc) p.LL.length (ints p.LL), rowO 3 1 (.slice (some ⟨a.hb, 0, none⟩) p.path.length a.hc) p.path.length (ints (nats p.path)), r11O a.C p.K p.th a.yc t.cl] wx) (fun wx => Sx R w0 [refO B m (t.W.set (p.av (p.v i1)) (wrap64 (rd t.W (p.av (p.v i1)) + p.n))) (t.L ++ [⟨2, (p.av (p.v i1) : Nat), p.n, wrap64 (rd t.W (p.av (p.v i1)) + p.n), false⟩]), Ass.blk y 71 [i64 p.tt, i64 (p.s : Int), i64 p.g, i64 p.lm, i64 p.r, i64 (p.K : Int), .slice (some ⟨a.pb, 0, none⟩) p.P.length a.pc, .slice (some ⟨a.lb, 0, none⟩) p.LL.length a.lc, i64 (p.nd : Int), i64 p.n, i64 (p.th : Int), .slice (some ⟨a.hb, 0, none⟩) p.path.length a.hc, i64 (((2 : Nat) : Int)), i64 ((i1 : Int)), ptr a.yc, pv, av, i64 (t.live), i64 (t.err), i64 (t.on), .bool false, i64 (t.ond)], rowO 3 1 (.slice (some ⟨a.pb, 0, none⟩) p.P.length a.pc) p.P.length (ints p.P), rowO 3 1 (.slice (some ⟨a.lb, 0, none⟩) p.LL.length a.lc) p.LL.length (ints p.LL), rowO 3 1 (.slice (some ⟨a.hb, 0, none⟩) p.path.length a.hc) p.path.length (ints (nats p.path)), r11O a.C p.K p.th a.yc t.cl] wx)) (by kernel_rfl) (by kernel_rfl)
  case hob =>
   iterate 4
    apply Oblig.cons
    case h =>
     intro S w1 hwi hSi hd hcl
     apply StepOk.intro
     intro K hK
     go_simp
     apply hK
     · rfl
     · conv => (lhs; whnf)
     · exact hwi.fixed (by decide)
    simp only [put_lit, put_none]
    try dsimp only [List.set_cons_succ, List.set_cons_zero]
   apply Oblig.cons
   case h =>
    intro S w1 hwi hSi hd hcl
    apply StepOk.intro
    intro K hK
    have hlast : S 20 = false := by
     cases h : S 20 with
     | false => rfl
     | true =>
      have h0 := (hcl 20 _ rfl h) ⟨15, .data⟩ (by simp) rfl
      have h1 := (hcl 15 _ rfl h0) ⟨4, .data⟩ (by simp) rfl
      rw [hSi] at h1
      cases h1
    obtain ⟨_, ⟨hb, _⟩, _⟩ := Sx.get (Sx.pick (hwi.1 hlast) 1 (by simp))
    obtain ⟨_, hrh, _⟩ := Sx.get (Sx.pick (hwi.1 hlast) 4 (by simp))
    have qy := hb.k22
    go_simp
    apply hK
    · rfl
    · conv => (lhs; whnf)
    · exact hwi.fixed (by decide)
   simp only [put_lit, put_none]
   try dsimp only [List.set_cons_succ, List.set_cons_zero]
   iterate 3
    apply Oblig.cons
    case h =>
     intro S w1 hwi hSi hd hcl
     apply StepOk.intro
     intro K hK
     go_simp
     apply hK
     · rfl
     · conv => (lhs; whnf)
     · exact hwi.fixed (by decide)
    simp only [put_lit, put_none]
    try dsimp only [List.set_cons_succ, List.set_cons_zero]
   apply Oblig.cons
   case h =>
    intro S w1 hwi hSi hd hcl
    apply StepOk.intro
    intro K hK
    have hlast : S 20 = false := by
     cases h : S 20 with
     | false => rfl
     | true =>
      have h0 := (hcl 20 _ rfl h) ⟨15, .data⟩ (by simp) rfl
      have h1 := (hcl 15 _ rfl h0) ⟨14, .data⟩ (by simp) rfl
      have h2 := (hcl 14 _ rfl h1) ⟨13, .data⟩ (by simp) rfl
      have h3 := (hcl 13 _ rfl h2) ⟨8, .data⟩ (by simp) rfl
      rw [hSi] at h3
      cases h3
    obtain ⟨_, ⟨hb, _⟩, _⟩ := Sx.get (Sx.pick (hwi.1 hlast) 1 (by simp))
    obtain ⟨_, hrh, _⟩ := Sx.get (Sx.pick (hwi.1 hlast) 4 (by simp))
    have qy := hb.k22
    go_simp
    apply hK
    · rfl
    · conv => (lhs; whnf)
    · exact hwi.fixed (by decide)
   simp only [put_lit, put_none]
   try dsimp only [List.set_cons_succ, List.set_cons_zero]
   iterate 3
    apply Oblig.cons
    case h =>
     intro S w1 hwi hSi hd hcl
     apply StepOk.intro
     intro K hK
     go_simp
     apply hK
     · rfl
     · conv => (lhs; whnf)
     · exact hwi.fixed (by decide)
    simp only [put_lit, put_none]
    try dsimp only [List.set_cons_succ, List.set_cons_zero]
   apply Oblig.cons
   case h =>
    intro S w1 hwi hSi hd hcl
    apply StepOk.intro
    intro K hK
    have hlast : S 20 = false := by
     cases h : S 20 with
     | false => rfl
     | true =>
      have h0 := (hcl 20 _ rfl h) ⟨15, .data⟩ (by simp) rfl
      have h1 := (hcl 15 _ rfl h0) ⟨14, .data⟩ (by simp) rfl
      have h2 := (hcl 14 _ rfl h1) ⟨13, .data⟩ (by simp) rfl
      have h3 := (hcl 13 _ rfl h2) ⟨12, .data⟩ (by simp) rfl
      rw [hSi] at h3
      cases h3
    obtain ⟨_, ⟨hb, _⟩, _⟩ := Sx.get (Sx.pick (hwi.1 hlast) 1 (by simp))
    obtain ⟨_, hrh, _⟩ := Sx.get (Sx.pick (hwi.1 hlast) 4 (by simp))
    have qy := hb.k22
    go_simp
    apply hK
    · rfl
    · conv => (lhs; whnf)
    · exact hwi.fixed (by decide)
   simp only [put_lit, put_none]
   try dsimp only [List.set_cons_succ, List.set_cons_zero]
   apply Oblig.cons
   case h =>
    intro S w1 hwi hSi hd hcl
    apply StepOk.intro
    intro K hK
    go_simp
    apply hK
    · rfl
    · conv => (lhs; whnf)
    · exact hwi.fixed (by decide)
   simp only [put_lit, put_none]
   try dsimp only [List.set_cons_succ, List.set_cons_zero]
   apply Oblig.cons
   case h =>
    intro S w1 hwi hSi hd hcl
    apply StepOk.intro
    intro K hK
    have hlast : S 20 = false := by
     cases h : S 20 with
     | false => rfl
     | true =>
      have h0 := (hcl 20 _ rfl h) ⟨15, .data⟩ (by simp) rfl
      have h1 := (hcl 15 _ rfl h0) ⟨14, .data⟩ (by simp) rfl
      rw [hSi] at h1
      cases h1
    obtain ⟨_, ⟨hb, _⟩, _⟩ := Sx.get (Sx.pick (hwi.1 hlast) 1 (by simp))
    obtain ⟨_, hrh, _⟩ := Sx.get (Sx.pick (hwi.1 hlast) 4 (by simp))
    have hcl := path_cell hrh (i := i1) hil
    have hcz := path_lt hrh (by omega)
    go_simp
    apply hK
    · rfl
    · conv => (lhs; whnf)
    · exact hwi.fixed (by decide)
   simp only [put_lit, put_none]
   try dsimp only [List.set_cons_succ, List.set_cons_zero]
   apply Oblig.cons
   case h =>
    intro S w1 hwi hSi hd hcl
    apply StepOk.intro
    intro K hK
    have hlast : S 20 = false := by
     cases h : S 20 with
     | false => rfl
     | true => exact absurd ((hcl 20 _ rfl h) ⟨15, .data⟩ (by simp) rfl) (by rw [hSi]; decide)
    go_simp
    refine (HAV.out _).mono ?_
    rintro e w2 ⟨rfl, hk⟩
    apply hK
    · rfl
    · conv => (lhs; whnf)
    · exact CA.mid hlast (by decide) ((hwi.1 hlast).keep hk)
   simp only [put_lit, put_none]
   try dsimp only [List.set_cons_succ, List.set_cons_zero]
   iterate 3
    apply Oblig.cons
    case h =>
     intro S w1 hwi hSi hd hcl
     apply StepOk.intro
     intro K hK
     go_simp
     apply hK
     · rfl
     · conv => (lhs; whnf)
     · exact hwi.fixed (by decide)
    simp only [put_lit, put_none]
    try dsimp only [List.set_cons_succ, List.set_cons_zero]
   apply Oblig.cons
   case h =>
    intro S w1 hwi hSi hd hcl
    apply StepOk.intro
    intro K hK
    have hlast : S 20 = false := by
     cases h : S 20 with
     | false => rfl
     | true => exact absurd ((hcl 20 _ rfl h) ⟨19, .data⟩ (by simp) rfl) (by rw [hSi]; decide)
    obtain ⟨_, ⟨hb, _⟩, _⟩ := Sx.get (Sx.pick (hwi.1 hlast) 1 (by simp))
    obtain ⟨_, hrh, _⟩ := Sx.get (Sx.pick (hwi.1 hlast) 4 (by simp))
    have qy := hb.k22
    go_simp
    apply hK
    · rfl
    · conv => (lhs; whnf)
    · exact hwi.fixed (by decide)
   simp only [put_lit, put_none]
   try dsimp only [List.set_cons_succ, List.set_cons_zero]
   apply Oblig.cons
   case h =>
    intro S w1 hwi hSi hd hcl
    apply StepOk.intro
    intro K hK
    go_simp
    refine Calls.mono (Sx.call (q := refO B m (t.W.set (p.av (p.v i1)) (wrap64 (rd t.W (p.av (p.v i1)) + p.n))) (t.L ++ [⟨2, (p.av (p.v i1) : Nat), p.n, wrap64 (rd t.W (p.av (p.v i1)) + p.n), false⟩])) (hwi.1 hSi) (fun Rq hr _ => refO_Add (p.av (p.v i1)) p.n hr (by omega) (by omega) hL)) ?_
    rintro e w2 ⟨rfl, hs⟩
    apply hK
    · rfl
    · conv => (lhs; whnf)
    · exact CA.done hs
   simp only [put_lit, put_none]
   try dsimp only [List.set_cons_succ, List.set_cons_zero]
   exact Oblig.nil
  case h0 =>
   exact ⟨fun _ => HS.out.drew, (fun h => by cases h)⟩
  case hend =>
   intro S wx hwi hall
   have hs0 := hwi.2 (hall 20 (by decide))
   obtain ⟨w3, hwn⟩ : ∃ v, v = wx := ⟨_, rfl⟩
   rw [← hwn] at hs0 ⊢
   have hs := hid (show Sx R w0 [refO B m (t.W.set (p.av (p.v i1)) (wrap64 (rd t.W (p.av (p.v i1)) + p.n))) (t.L ++ [⟨2, (p.av (p.v i1) : Nat), p.n, wrap64 (rd t.W (p.av (p.v i1)) + p.n), false⟩]), Ass.blk y 71 [i64 p.tt, i64 (p.s : Int), i64 p.g, i64 p.lm, i64 p.r, i64 (p.K : Int), .slice (some ⟨a.pb, 0, none⟩) p.P.length a.pc, .slice (some ⟨a.lb, 0, none⟩) p.LL.length a.lc, i64 (p.nd : Int), i64 p.n, i64 (p.th : Int), .slice (some ⟨a.hb, 0, none⟩) p.path.length a.hc, i64 (((2 : Nat) : Int)), i64 ((i1 : Int)), ptr a.yc, pv, av, i64 (t.live), i64 (t.err), i64 (t.on), .bool false, i64 (t.ond)], rowO 3 1 (.slice (some ⟨a.pb, 0, none⟩) p.P.length a.pc) p.P.length (ints p.P), rowO 3 1 (.slice (some ⟨a.lb, 0, none⟩) p.LL.length a.lc) p.LL.length (ints p.LL), rowO 3 1 (.slice (some ⟨a.hb, 0, none⟩) p.path.length a.hc) p.path.length (ints (nats p.path)), r11O a.C p.K p.th a.yc t.cl] w3 from hs0)
   clear hwi hall hs0 hwn HS
   have HS := hs
   clear hs
   obtain ⟨_, ⟨hb, _⟩, _⟩ := Sx.get (show Sx R w0 [Ass.blk y 71 [i64 p.tt, i64 (p.s : Int), i64 p.g, i64 p.lm, i64 p.r, i64 (p.K : Int), .slice (some ⟨a.pb, 0, none⟩) p.P.length a.pc, .slice (some ⟨a.lb, 0, none⟩) p.LL.length a.lc, i64 (p.nd : Int), i64 p.n, i64 (p.th : Int), .slice (some ⟨a.hb, 0, none⟩) p.path.length a.hc, i64 (((2 : Nat) : Int)), i64 ((i1 : Int)), ptr a.yc, pv, av, i64 (t.live), i64 (t.err), i64 (t.on), .bool false, i64 (t.ond)], refO B m (t.W.set (p.av (p.v i1)) (wrap64 (rd t.W (p.av (p.v i1)) + p.n))) (t.L ++ [⟨2, (p.av (p.v i1) : Nat), p.n, wrap64 (rd t.W (p.av (p.v i1)) + p.n), false⟩]), rowO 3 1 (.slice (some ⟨a.pb, 0, none⟩) p.P.length a.pc) p.P.length (ints p.P), rowO 3 1 (.slice (some ⟨a.lb, 0, none⟩) p.LL.length a.lc) p.LL.length (ints p.LL), rowO 3 1 (.slice (some ⟨a.hb, 0, none⟩) p.path.length a.hc) p.path.length (ints (nats p.path)), r11O a.C p.K p.th a.yc t.cl] w3 from (Sx.pick (show Sx R w0 [refO B m (t.W.set (p.av (p.v i1)) (wrap64 (rd t.W (p.av (p.v i1)) + p.n))) (t.L ++ [⟨2, (p.av (p.v i1) : Nat), p.n, wrap64 (rd t.W (p.av (p.v i1)) + p.n), false⟩]), Ass.blk y 71 [i64 p.tt, i64 (p.s : Int), i64 p.g, i64 p.lm, i64 p.r, i64 (p.K : Int), .slice (some ⟨a.pb, 0, none⟩) p.P.length a.pc, .slice (some ⟨a.lb, 0, none⟩) p.LL.length a.lc, i64 (p.nd : Int), i64 p.n, i64 (p.th : Int), .slice (some ⟨a.hb, 0, none⟩) p.path.length a.hc, i64 (((2 : Nat) : Int)), i64 ((i1 : Int)), ptr a.yc, pv, av, i64 (t.live), i64 (t.err), i64 (t.on), .bool false, i64 (t.ond)], rowO 3 1 (.slice (some ⟨a.pb, 0, none⟩) p.P.length a.pc) p.P.length (ints p.P), rowO 3 1 (.slice (some ⟨a.lb, 0, none⟩) p.LL.length a.lc) p.LL.length (ints p.LL), rowO 3 1 (.slice (some ⟨a.hb, 0, none⟩) p.path.length a.hc) p.path.length (ints (nats p.path)), r11O a.C p.K p.th a.yc t.cl] w3 from by repeat (with_reducible first | exact HS.out | apply Sx.alloc | apply Sx.drewN | apply Sx.drew)) 1 (by simp)))
   have qy := hb.k22
   clear hb
   go_wp2_with fail
   go_ret
   exact ⟨rfl, HS.out⟩
set_option maxHeartbeats 4000000 in
theorem r12_step2z (hp : P12OK p) (hn : t.cl.n < p.K) (htk : t.tk p < t.W.length) (hW : t.W.length ≤ 10000) (hL : t.L.length ≤ 1000000000) (h : (stars (refO B m t.W t.L :: [Ass.blk y 71 [i64 p.tt, i64 (p.s : Int), i64 p.g, i64 p.lm, i64 p.r, i64 (p.K : Int), .slice (some ⟨a.pb, 0, none⟩) p.P.length a.pc, .slice (some ⟨a.lb, 0, none⟩) p.LL.length a.lc, i64 (p.nd : Int), i64 p.n, i64 (p.th : Int), .slice (some ⟨a.hb, 0, none⟩) p.path.length a.hc, i64 (((2 : Nat) : Int)), i64 (0), ptr a.yc, pv, av, i64 (t.live), i64 (t.err), i64 (t.on), .bool false, i64 (t.ond)], rowO 3 1 (.slice (some ⟨a.pb, 0, none⟩) p.P.length a.pc) p.P.length (ints p.P), rowO 3 1 (.slice (some ⟨a.lb, 0, none⟩) p.LL.length a.lc) p.LL.length (ints p.LL), rowO 3 1 (.slice (some ⟨a.hb, 0, none⟩) p.path.length a.hc) p.path.length (ints (nats p.path)), r11O a.C p.K p.th a.yc t.cl])).At R w) :
 Calls Try.prog 37 #[ptr y, ptr m] w fun e w' => e = .returned (.bool true) ∧ Tr (stars ((refO B m (t.W.set (t.tk p) (pNext6 t.cl.set 0)) (t.L ++ [⟨4, (t.tk p : Nat), pNext6 t.cl.set 0, 0, false⟩])) :: [Ass.blk y 71 [i64 p.tt, i64 (p.s : Int), i64 p.g, i64 p.lm, i64 p.r, i64 (p.K : Int), .slice (some ⟨a.pb, 0, none⟩) p.P.length a.pc, .slice (some ⟨a.lb, 0, none⟩) p.LL.length a.lc, i64 (p.nd : Int), i64 p.n, i64 (p.th : Int), .slice (some ⟨a.hb, 0, none⟩) p.path.length a.hc, i64 (((6 : Nat) : Int)), i64 (0), ptr a.yc, pv, av, i64 (t.live), i64 (t.err), i64 (t.on), .bool false, i64 (t.ond)], rowO 3 1 (.slice (some ⟨a.pb, 0, none⟩) p.P.length a.pc) p.P.length (ints p.P), rowO 3 1 (.slice (some ⟨a.lb, 0, none⟩) p.LL.length a.lc) p.LL.length (ints p.LL), rowO 3 1 (.slice (some ⟨a.hb, 0, none⟩) p.path.length a.hc) p.path.length (ints (nats p.path)), r11O a.C p.K p.th a.yc t.cl])) R w w' := by
 obtain ⟨w0, hw0⟩ : ∃ v, v = w := ⟨_, rfl⟩
 rw [← hw0] at h ⊢
 have HS := hid (show Sx R w0 [refO B m t.W t.L, Ass.blk y 71 [i64 p.tt, i64 (p.s : Int), i64 p.g, i64 p.lm, i64 p.r, i64 (p.K : Int), .slice (some ⟨a.pb, 0, none⟩) p.P.length a.pc, .slice (some ⟨a.lb, 0, none⟩) p.LL.length a.lc, i64 (p.nd : Int), i64 p.n, i64 (p.th : Int), .slice (some ⟨a.hb, 0, none⟩) p.path.length a.hc, i64 (((2 : Nat) : Int)), i64 (0), ptr a.yc, pv, av, i64 (t.live), i64 (t.err), i64 (t.on), .bool false, i64 (t.ond)], rowO 3 1 (.slice (some ⟨a.pb, 0, none⟩) p.P.length a.pc) p.P.length (ints p.P), rowO 3 1 (.slice (some ⟨a.lb, 0, none⟩) p.LL.length a.lc) p.LL.length (ints p.LL), rowO 3 1 (.slice (some ⟨a.hb, 0, none⟩) p.path.length a.hc) p.path.length (ints (nats p.path)), r11O a.C p.K p.th a.yc t.cl] w0 from Sx.start h)
 clear h hw0
 have hs8 := hp.s8
 have hp1 := hp.p1
 have hk1 := hp.k1
 obtain ⟨ae, hae⟩ : ∃ ae : Int, ae = (if t.cl.fin = 2 then 3 else 0) := ⟨_, rfl⟩
 have HAE := hid hae
 clear hae
 have htk0 := fun w' => ref_Ticket p.tt p.s p.g p.lm p.r p.K (some ⟨a.pb, 0, none⟩) p.P.length a.pc (some ⟨a.lb, 0, none⟩) p.LL.length a.lc (t.cl.n : Int) w' (by omega) (by omega) (by omega) (by omega) (by omega)
 rw [show (p.P.length : Int) * (6 + 2 * (p.s : Int)) + 2 * (t.cl.n : Int) = ((t.tk p : Nat) : Int) from by unfold S12.tk P12.q; push_cast; rfl] at htk0
 have HTK := hid htk0
 clear htk0
 go_enter Try.func37, Try.ntmps37
 go_upto_region 1 with fail
 apply wp_region_text (WI := fun S wx => Keep0 w0 wx) (by kernel_rfl) (by kernel_rfl)
 case hob =>
  iterate 8
   apply Oblig.cons
   case h =>
    intro S w1 hwi hSi hd hcl
    apply StepOk.intro
    intro K hK
    obtain ⟨_, ⟨hb, _⟩, _⟩ := Sx.get (Sx.pick (Sx.keep HS.out hwi) 1 (by simp))
    have qy := hb.k22
    clear hb
    obtain ⟨_, ⟨hcl, _⟩, _⟩ := Sx.get (Sx.pick (Sx.keep HS.out hwi) 5 (by simp))
    go_simp
    apply hK
    · rfl
    · conv => (lhs; whnf)
    · exact hwi
   simp only [put_lit, put_none]
   try dsimp only [List.set_cons_succ, List.set_cons_zero]
  apply Oblig.cons
  case h =>
   intro S w1 hwi hSi hd hcl
   apply StepOk.intro
   intro K hK
   obtain ⟨_, ⟨hb, _⟩, _⟩ := Sx.get (Sx.pick (Sx.keep HS.out hwi) 1 (by simp))
   have qy := hb.k22
   clear hb
   obtain ⟨_, ⟨hcl, _⟩, _⟩ := Sx.get (Sx.pick (Sx.keep HS.out hwi) 5 (by simp))
   go_simp
   refine (show Calls Try.prog 52 _ w1 (Ret (.agg #[i64 ae, i64 (t.cl.n : Int), .bool false, i64 0]) w1) from by have h := r11_Ans t.cl hcl; unfold clAns at h; rw [← HAE.out] at h; exact h).mono ?_
   rintro e w2 ⟨rfl, hk⟩
   apply hK
   · rfl
   · conv => (lhs; whnf)
   · exact Keep0.step hwi hk
  simp only [put_lit, put_none]
  try dsimp only [List.set_cons_succ, List.set_cons_zero]
  apply Oblig.cons
  case h =>
   intro S w1 hwi hSi hd hcl
   apply StepOk.intro
   intro K hK
   obtain ⟨_, ⟨hb, _⟩, _⟩ := Sx.get (Sx.pick (Sx.keep HS.out hwi) 1 (by simp))
   have qy := hb.k22
   clear hb
   obtain ⟨_, ⟨hcl, _⟩, _⟩ := Sx.get (Sx.pick (Sx.keep HS.out hwi) 5 (by simp))
   go_simp
   apply hK
   · rfl
   · conv => (lhs; whnf)
   · exact hwi
  simp only [put_lit, put_none]
  try dsimp only [List.set_cons_succ, List.set_cons_zero]
  apply Oblig.cons
  case h =>
   intro S w1 hwi hSi hd hcl
   apply StepOk.intro
   intro K hK
   go_simp
   refine (HTK.out _).mono ?_
   rintro e w2 ⟨rfl, hk⟩
   apply hK
   · rfl
   · conv => (lhs; whnf)
   · exact Keep0.step hwi hk
  simp only [put_lit, put_none]
  try dsimp only [List.set_cons_succ, List.set_cons_zero]
  apply Oblig.cons
  case h =>
   intro S w1 hwi hSi hd hcl
   apply StepOk.intro
   intro K hK
   obtain ⟨_, ⟨hb, _⟩, _⟩ := Sx.get (Sx.pick (Sx.keep HS.out hwi) 1 (by simp))
   have qy := hb.k22
   clear hb
   obtain ⟨_, ⟨hcl, _⟩, _⟩ := Sx.get (Sx.pick (Sx.keep HS.out hwi) 5 (by simp))
   go_simp
   apply hK
   · rfl
   · conv => (lhs; whnf)
   · exact hwi
  simp only [put_lit, put_none]
  try dsimp only [List.set_cons_succ, List.set_cons_zero]
  exact Oblig.nil
 case h0 =>
  exact (Keep.refl _ _).drew
 case hend =>
  intro S wx hwi hall
  have hkx := hwi
  obtain ⟨w1, hwn⟩ : ∃ v, v = wx := ⟨_, rfl⟩
  rw [← hwn] at hkx ⊢
  have hs := hid (show Sx R w0 [refO B m t.W t.L, Ass.blk y 71 [i64 p.tt, i64 (p.s : Int), i64 p.g, i64 p.lm, i64 p.r, i64 (p.K : Int), .slice (some ⟨a.pb, 0, none⟩) p.P.length a.pc, .slice (some ⟨a.lb, 0, none⟩) p.LL.length a.lc, i64 (p.nd : Int), i64 p.n, i64 (p.th : Int), .slice (some ⟨a.hb, 0, none⟩) p.path.length a.hc, i64 (((2 : Nat) : Int)), i64 (0), ptr a.yc, pv, av, i64 (t.live), i64 (t.err), i64 (t.on), .bool false, i64 (t.ond)], rowO 3 1 (.slice (some ⟨a.pb, 0, none⟩) p.P.length a.pc) p.P.length (ints p.P), rowO 3 1 (.slice (some ⟨a.lb, 0, none⟩) p.LL.length a.lc) p.LL.length (ints p.LL), rowO 3 1 (.slice (some ⟨a.hb, 0, none⟩) p.path.length a.hc) p.path.length (ints (nats p.path)), r11O a.C p.K p.th a.yc t.cl] w1 from Sx.keep HS.out hkx)
  clear hwi hall hkx hwn HS
  have HS := hs
  clear hs
  obtain ⟨_, ⟨hb, _⟩, _⟩ := Sx.get (show Sx R w0 [Ass.blk y 71 [i64 p.tt, i64 (p.s : Int), i64 p.g, i64 p.lm, i64 p.r, i64 (p.K : Int), .slice (some ⟨a.pb, 0, none⟩) p.P.length a.pc, .slice (some ⟨a.lb, 0, none⟩) p.LL.length a.lc, i64 (p.nd : Int), i64 p.n, i64 (p.th : Int), .slice (some ⟨a.hb, 0, none⟩) p.path.length a.hc, i64 (((2 : Nat) : Int)), i64 (0), ptr a.yc, pv, av, i64 (t.live), i64 (t.err), i64 (t.on), .bool false, i64 (t.ond)], refO B m t.W t.L, rowO 3 1 (.slice (some ⟨a.pb, 0, none⟩) p.P.length a.pc) p.P.length (ints p.P), rowO 3 1 (.slice (some ⟨a.lb, 0, none⟩) p.LL.length a.lc) p.LL.length (ints p.LL), rowO 3 1 (.slice (some ⟨a.hb, 0, none⟩) p.path.length a.hc) p.path.length (ints (nats p.path)), r11O a.C p.K p.th a.yc t.cl] w1 from (Sx.pick (show Sx R w0 [refO B m t.W t.L, Ass.blk y 71 [i64 p.tt, i64 (p.s : Int), i64 p.g, i64 p.lm, i64 p.r, i64 (p.K : Int), .slice (some ⟨a.pb, 0, none⟩) p.P.length a.pc, .slice (some ⟨a.lb, 0, none⟩) p.LL.length a.lc, i64 (p.nd : Int), i64 p.n, i64 (p.th : Int), .slice (some ⟨a.hb, 0, none⟩) p.path.length a.hc, i64 (((2 : Nat) : Int)), i64 (0), ptr a.yc, pv, av, i64 (t.live), i64 (t.err), i64 (t.on), .bool false, i64 (t.ond)], rowO 3 1 (.slice (some ⟨a.pb, 0, none⟩) p.P.length a.pc) p.P.length (ints p.P), rowO 3 1 (.slice (some ⟨a.lb, 0, none⟩) p.LL.length a.lc) p.LL.length (ints p.LL), rowO 3 1 (.slice (some ⟨a.hb, 0, none⟩) p.path.length a.hc) p.path.length (ints (nats p.path)), r11O a.C p.K p.th a.yc t.cl] w1 from by repeat (with_reducible first | exact HS.out | apply Sx.alloc | apply Sx.drewN | apply Sx.drew)) 1 (by simp)))
  have qy := hb.k22
  clear hb
  obtain ⟨_, ⟨hcl, _⟩, _⟩ := Sx.get (show Sx R w0 [r11O a.C p.K p.th a.yc t.cl, refO B m t.W t.L, Ass.blk y 71 [i64 p.tt, i64 (p.s : Int), i64 p.g, i64 p.lm, i64 p.r, i64 (p.K : Int), .slice (some ⟨a.pb, 0, none⟩) p.P.length a.pc, .slice (some ⟨a.lb, 0, none⟩) p.LL.length a.lc, i64 (p.nd : Int), i64 p.n, i64 (p.th : Int), .slice (some ⟨a.hb, 0, none⟩) p.path.length a.hc, i64 (((2 : Nat) : Int)), i64 (0), ptr a.yc, pv, av, i64 (t.live), i64 (t.err), i64 (t.on), .bool false, i64 (t.ond)], rowO 3 1 (.slice (some ⟨a.pb, 0, none⟩) p.P.length a.pc) p.P.length (ints p.P), rowO 3 1 (.slice (some ⟨a.lb, 0, none⟩) p.LL.length a.lc) p.LL.length (ints p.LL), rowO 3 1 (.slice (some ⟨a.hb, 0, none⟩) p.path.length a.hc) p.path.length (ints (nats p.path))] w1 from (Sx.pick (show Sx R w0 [refO B m t.W t.L, Ass.blk y 71 [i64 p.tt, i64 (p.s : Int), i64 p.g, i64 p.lm, i64 p.r, i64 (p.K : Int), .slice (some ⟨a.pb, 0, none⟩) p.P.length a.pc, .slice (some ⟨a.lb, 0, none⟩) p.LL.length a.lc, i64 (p.nd : Int), i64 p.n, i64 (p.th : Int), .slice (some ⟨a.hb, 0, none⟩) p.path.length a.hc, i64 (((2 : Nat) : Int)), i64 (0), ptr a.yc, pv, av, i64 (t.live), i64 (t.err), i64 (t.on), .bool false, i64 (t.ond)], rowO 3 1 (.slice (some ⟨a.pb, 0, none⟩) p.P.length a.pc) p.P.length (ints p.P), rowO 3 1 (.slice (some ⟨a.lb, 0, none⟩) p.LL.length a.lc) p.LL.length (ints p.LL), rowO 3 1 (.slice (some ⟨a.hb, 0, none⟩) p.path.length a.hc) p.path.length (ints (nats p.path)), r11O a.C p.K p.th a.yc t.cl] w1 from by repeat (with_reducible first | exact HS.out | apply Sx.alloc | apply Sx.drewN | apply Sx.drew)) 5 (by simp)))
  have HWD := hid (r11_Word t.cl hcl)
  clear hcl
  go_wp2_with fail
  refine Calls.mono (HWD.out) ?_
  rintro e w2 ⟨rfl, hk⟩
  have hs := Sx.keep (show Sx R w0 [refO B m t.W t.L, Ass.blk y 71 [i64 p.tt, i64 (p.s : Int), i64 p.g, i64 p.lm, i64 p.r, i64 (p.K : Int), .slice (some ⟨a.pb, 0, none⟩) p.P.length a.pc, .slice (some ⟨a.lb, 0, none⟩) p.LL.length a.lc, i64 (p.nd : Int), i64 p.n, i64 (p.th : Int), .slice (some ⟨a.hb, 0, none⟩) p.path.length a.hc, i64 (((2 : Nat) : Int)), i64 (0), ptr a.yc, pv, av, i64 (t.live), i64 (t.err), i64 (t.on), .bool false, i64 (t.ond)], rowO 3 1 (.slice (some ⟨a.pb, 0, none⟩) p.P.length a.pc) p.P.length (ints p.P), rowO 3 1 (.slice (some ⟨a.lb, 0, none⟩) p.LL.length a.lc) p.LL.length (ints p.LL), rowO 3 1 (.slice (some ⟨a.hb, 0, none⟩) p.path.length a.hc) p.path.length (ints (nats p.path)), r11O a.C p.K p.th a.yc t.cl] _ from by repeat (with_reducible first | exact HS.out | apply Sx.alloc | apply Sx.drewN | apply Sx.drew)) hk
  clear HS
  have HS := hid (show Sx R w0 [refO B m t.W t.L, Ass.blk y 71 [i64 p.tt, i64 (p.s : Int), i64 p.g, i64 p.lm, i64 p.r, i64 (p.K : Int), .slice (some ⟨a.pb, 0, none⟩) p.P.length a.pc, .slice (some ⟨a.lb, 0, none⟩) p.LL.length a.lc, i64 (p.nd : Int), i64 p.n, i64 (p.th : Int), .slice (some ⟨a.hb, 0, none⟩) p.path.length a.hc, i64 (((2 : Nat) : Int)), i64 (0), ptr a.yc, pv, av, i64 (t.live), i64 (t.err), i64 (t.on), .bool false, i64 (t.ond)], rowO 3 1 (.slice (some ⟨a.pb, 0, none⟩) p.P.length a.pc) p.P.length (ints p.P), rowO 3 1 (.slice (some ⟨a.lb, 0, none⟩) p.LL.length a.lc) p.LL.length (ints p.LL), rowO 3 1 (.slice (some ⟨a.hb, 0, none⟩) p.path.length a.hc) p.path.length (ints (nats p.path)), r11O a.C p.K p.th a.yc t.cl] w2 from hs)
  clear hs hk
  clear qy HWD
  obtain ⟨_, ⟨hb, _⟩, _⟩ := Sx.get (show Sx R w0 [Ass.blk y 71 [i64 p.tt, i64 (p.s : Int), i64 p.g, i64 p.lm, i64 p.r, i64 (p.K : Int), .slice (some ⟨a.pb, 0, none⟩) p.P.length a.pc, .slice (some ⟨a.lb, 0, none⟩) p.LL.length a.lc, i64 (p.nd : Int), i64 p.n, i64 (p.th : Int), .slice (some ⟨a.hb, 0, none⟩) p.path.length a.hc, i64 (((2 : Nat) : Int)), i64 (0), ptr a.yc, pv, av, i64 (t.live), i64 (t.err), i64 (t.on), .bool false, i64 (t.ond)], refO B m t.W t.L, rowO 3 1 (.slice (some ⟨a.pb, 0, none⟩) p.P.length a.pc) p.P.length (ints p.P), rowO 3 1 (.slice (some ⟨a.lb, 0, none⟩) p.LL.length a.lc) p.LL.length (ints p.LL), rowO 3 1 (.slice (some ⟨a.hb, 0, none⟩) p.path.length a.hc) p.path.length (ints (nats p.path)), r11O a.C p.K p.th a.yc t.cl] w2 from (Sx.pick (show Sx R w0 [refO B m t.W t.L, Ass.blk y 71 [i64 p.tt, i64 (p.s : Int), i64 p.g, i64 p.lm, i64 p.r, i64 (p.K : Int), .slice (some ⟨a.pb, 0, none⟩) p.P.length a.pc, .slice (some ⟨a.lb, 0, none⟩) p.LL.length a.lc, i64 (p.nd : Int), i64 p.n, i64 (p.th : Int), .slice (some ⟨a.hb, 0, none⟩) p.path.length a.hc, i64 (((2 : Nat) : Int)), i64 (0), ptr a.yc, pv, av, i64 (t.live), i64 (t.err), i64 (t.on), .bool false, i64 (t.ond)], rowO 3 1 (.slice (some ⟨a.pb, 0, none⟩) p.P.length a.pc) p.P.length (ints p.P), rowO 3 1 (.slice (some ⟨a.lb, 0, none⟩) p.LL.length a.lc) p.LL.length (ints p.LL), rowO 3 1 (.slice (some ⟨a.hb, 0, none⟩) p.path.length a.hc) p.path.length (ints (nats p.path)), r11O a.C p.K p.th a.yc t.cl] w2 from by repeat (with_reducible first | exact HS.out | apply Sx.alloc | apply Sx.drewN | apply Sx.drew)) 1 (by simp)))
  have qy := hb.k22
  clear hb
  go_wp2_with fail
  refine Calls.mono (ref10_TurnN t.cl.set 0 _ (by omega)) ?_
  rintro e wq ⟨rfl, rfl⟩
  go_wp2_with fail
  refine Calls.mono (Sx.call (q := refO B m (t.W.set (t.tk p) (pNext6 t.cl.set 0)) (t.L ++ [⟨4, (t.tk p : Nat), pNext6 t.cl.set 0, 0, false⟩])) (show Sx R w0 [refO B m t.W t.L, Ass.blk y 71 [i64 p.tt, i64 (p.s : Int), i64 p.g, i64 p.lm, i64 p.r, i64 (p.K : Int), .slice (some ⟨a.pb, 0, none⟩) p.P.length a.pc, .slice (some ⟨a.lb, 0, none⟩) p.LL.length a.lc, i64 (p.nd : Int), i64 p.n, i64 (p.th : Int), .slice (some ⟨a.hb, 0, none⟩) p.path.length a.hc, i64 (((2 : Nat) : Int)), i64 (0), ptr a.yc, pv, av, i64 (t.live), i64 (t.err), i64 (t.on), .bool false, i64 (t.ond)], rowO 3 1 (.slice (some ⟨a.pb, 0, none⟩) p.P.length a.pc) p.P.length (ints p.P), rowO 3 1 (.slice (some ⟨a.lb, 0, none⟩) p.LL.length a.lc) p.LL.length (ints p.LL), rowO 3 1 (.slice (some ⟨a.hb, 0, none⟩) p.path.length a.hc) p.path.length (ints (nats p.path)), r11O a.C p.K p.th a.yc t.cl] _ from (show Sx R w0 [refO B m t.W t.L, Ass.blk y 71 [i64 p.tt, i64 (p.s : Int), i64 p.g, i64 p.lm, i64 p.r, i64 (p.K : Int), .slice (some ⟨a.pb, 0, none⟩) p.P.length a.pc, .slice (some ⟨a.lb, 0, none⟩) p.LL.length a.lc, i64 (p.nd : Int), i64 p.n, i64 (p.th : Int), .slice (some ⟨a.hb, 0, none⟩) p.path.length a.hc, i64 (((2 : Nat) : Int)), i64 (0), ptr a.yc, pv, av, i64 (t.live), i64 (t.err), i64 (t.on), .bool false, i64 (t.ond)], rowO 3 1 (.slice (some ⟨a.pb, 0, none⟩) p.P.length a.pc) p.P.length (ints p.P), rowO 3 1 (.slice (some ⟨a.lb, 0, none⟩) p.LL.length a.lc) p.LL.length (ints p.LL), rowO 3 1 (.slice (some ⟨a.hb, 0, none⟩) p.path.length a.hc) p.path.length (ints (nats p.path)), r11O a.C p.K p.th a.yc t.cl] _ from by repeat (with_reducible first | exact HS.out | apply Sx.alloc | apply Sx.drewN | apply Sx.drew))) (fun Rq hr hz => refO_Store (t.tk p) (pNext6 t.cl.set 0) hr (by omega) (by omega) hL)) ?_
  rintro e w3 ⟨rfl, hs⟩
  clear HS
  have HS := hid (show Sx R w0 [refO B m (t.W.set (t.tk p) (pNext6 t.cl.set 0)) (t.L ++ [⟨4, (t.tk p : Nat), pNext6 t.cl.set 0, 0, false⟩]), Ass.blk y 71 [i64 p.tt, i64 (p.s : Int), i64 p.g, i64 p.lm, i64 p.r, i64 (p.K : Int), .slice (some ⟨a.pb, 0, none⟩) p.P.length a.pc, .slice (some ⟨a.lb, 0, none⟩) p.LL.length a.lc, i64 (p.nd : Int), i64 p.n, i64 (p.th : Int), .slice (some ⟨a.hb, 0, none⟩) p.path.length a.hc, i64 (((2 : Nat) : Int)), i64 (0), ptr a.yc, pv, av, i64 (t.live), i64 (t.err), i64 (t.on), .bool false, i64 (t.ond)], rowO 3 1 (.slice (some ⟨a.pb, 0, none⟩) p.P.length a.pc) p.P.length (ints p.P), rowO 3 1 (.slice (some ⟨a.lb, 0, none⟩) p.LL.length a.lc) p.LL.length (ints p.LL), rowO 3 1 (.slice (some ⟨a.hb, 0, none⟩) p.path.length a.hc) p.path.length (ints (nats p.path)), r11O a.C p.K p.th a.yc t.cl] w3 from hs)
  clear hs
  clear qy
  obtain ⟨_, ⟨hb, _⟩, _⟩ := Sx.get (show Sx R w0 [Ass.blk y 71 [i64 p.tt, i64 (p.s : Int), i64 p.g, i64 p.lm, i64 p.r, i64 (p.K : Int), .slice (some ⟨a.pb, 0, none⟩) p.P.length a.pc, .slice (some ⟨a.lb, 0, none⟩) p.LL.length a.lc, i64 (p.nd : Int), i64 p.n, i64 (p.th : Int), .slice (some ⟨a.hb, 0, none⟩) p.path.length a.hc, i64 (((2 : Nat) : Int)), i64 (0), ptr a.yc, pv, av, i64 (t.live), i64 (t.err), i64 (t.on), .bool false, i64 (t.ond)], refO B m (t.W.set (t.tk p) (pNext6 t.cl.set 0)) (t.L ++ [⟨4, (t.tk p : Nat), pNext6 t.cl.set 0, 0, false⟩]), rowO 3 1 (.slice (some ⟨a.pb, 0, none⟩) p.P.length a.pc) p.P.length (ints p.P), rowO 3 1 (.slice (some ⟨a.lb, 0, none⟩) p.LL.length a.lc) p.LL.length (ints p.LL), rowO 3 1 (.slice (some ⟨a.hb, 0, none⟩) p.path.length a.hc) p.path.length (ints (nats p.path)), r11O a.C p.K p.th a.yc t.cl] w3 from (Sx.pick (show Sx R w0 [refO B m (t.W.set (t.tk p) (pNext6 t.cl.set 0)) (t.L ++ [⟨4, (t.tk p : Nat), pNext6 t.cl.set 0, 0, false⟩]), Ass.blk y 71 [i64 p.tt, i64 (p.s : Int), i64 p.g, i64 p.lm, i64 p.r, i64 (p.K : Int), .slice (some ⟨a.pb, 0, none⟩) p.P.length a.pc, .slice (some ⟨a.lb, 0, none⟩) p.LL.length a.lc, i64 (p.nd : Int), i64 p.n, i64 (p.th : Int), .slice (some ⟨a.hb, 0, none⟩) p.path.length a.hc, i64 (((2 : Nat) : Int)), i64 (0), ptr a.yc, pv, av, i64 (t.live), i64 (t.err), i64 (t.on), .bool false, i64 (t.ond)], rowO 3 1 (.slice (some ⟨a.pb, 0, none⟩) p.P.length a.pc) p.P.length (ints p.P), rowO 3 1 (.slice (some ⟨a.lb, 0, none⟩) p.LL.length a.lc) p.LL.length (ints p.LL), rowO 3 1 (.slice (some ⟨a.hb, 0, none⟩) p.path.length a.hc) p.path.length (ints (nats p.path)), r11O a.C p.K p.th a.yc t.cl] w3 from by repeat (with_reducible first | exact HS.out | apply Sx.alloc | apply Sx.drewN | apply Sx.drew)) 1 (by simp)))
  have qy := hb.k22
  clear hb
  go_wp2_with fail
  go_ret
  exact ⟨rfl, Sx.pick (show Sx R w0 [Ass.blk y 71 [i64 p.tt, i64 (p.s : Int), i64 p.g, i64 p.lm, i64 p.r, i64 (p.K : Int), .slice (some ⟨a.pb, 0, none⟩) p.P.length a.pc, .slice (some ⟨a.lb, 0, none⟩) p.LL.length a.lc, i64 (p.nd : Int), i64 p.n, i64 (p.th : Int), .slice (some ⟨a.hb, 0, none⟩) p.path.length a.hc, i64 (((6 : Nat) : Int)), i64 (0), ptr a.yc, pv, av, i64 (t.live), i64 (t.err), i64 (t.on), .bool false, i64 (t.ond)], refO B m (t.W.set (t.tk p) (pNext6 t.cl.set 0)) (t.L ++ [⟨4, (t.tk p : Nat), pNext6 t.cl.set 0, 0, false⟩]), rowO 3 1 (.slice (some ⟨a.pb, 0, none⟩) p.P.length a.pc) p.P.length (ints p.P), rowO 3 1 (.slice (some ⟨a.lb, 0, none⟩) p.LL.length a.lc) p.LL.length (ints p.LL), rowO 3 1 (.slice (some ⟨a.hb, 0, none⟩) p.path.length a.hc) p.path.length (ints (nats p.path)), r11O a.C p.K p.th a.yc t.cl] _ from (Sx.tr (show Sx R w0 [Ass.blk y 71 [i64 p.tt, i64 (p.s : Int), i64 p.g, i64 p.lm, i64 p.r, i64 (p.K : Int), .slice (some ⟨a.pb, 0, none⟩) p.P.length a.pc, .slice (some ⟨a.lb, 0, none⟩) p.LL.length a.lc, i64 (p.nd : Int), i64 p.n, i64 (p.th : Int), .slice (some ⟨a.hb, 0, none⟩) p.path.length a.hc, i64 (((2 : Nat) : Int)), i64 (0), ptr a.yc, pv, av, i64 (t.live), i64 (t.err), i64 (t.on), .bool false, i64 (t.ond)], refO B m (t.W.set (t.tk p) (pNext6 t.cl.set 0)) (t.L ++ [⟨4, (t.tk p : Nat), pNext6 t.cl.set 0, 0, false⟩]), rowO 3 1 (.slice (some ⟨a.pb, 0, none⟩) p.P.length a.pc) p.P.length (ints p.P), rowO 3 1 (.slice (some ⟨a.lb, 0, none⟩) p.LL.length a.lc) p.LL.length (ints p.LL), rowO 3 1 (.slice (some ⟨a.hb, 0, none⟩) p.path.length a.hc) p.path.length (ints (nats p.path)), r11O a.C p.K p.th a.yc t.cl] _ from (Sx.pick (show Sx R w0 [refO B m (t.W.set (t.tk p) (pNext6 t.cl.set 0)) (t.L ++ [⟨4, (t.tk p : Nat), pNext6 t.cl.set 0, 0, false⟩]), Ass.blk y 71 [i64 p.tt, i64 (p.s : Int), i64 p.g, i64 p.lm, i64 p.r, i64 (p.K : Int), .slice (some ⟨a.pb, 0, none⟩) p.P.length a.pc, .slice (some ⟨a.lb, 0, none⟩) p.LL.length a.lc, i64 (p.nd : Int), i64 p.n, i64 (p.th : Int), .slice (some ⟨a.hb, 0, none⟩) p.path.length a.hc, i64 (((2 : Nat) : Int)), i64 (0), ptr a.yc, pv, av, i64 (t.live), i64 (t.err), i64 (t.on), .bool false, i64 (t.ond)], rowO 3 1 (.slice (some ⟨a.pb, 0, none⟩) p.P.length a.pc) p.P.length (ints p.P), rowO 3 1 (.slice (some ⟨a.lb, 0, none⟩) p.LL.length a.lc) p.LL.length (ints p.LL), rowO 3 1 (.slice (some ⟨a.hb, 0, none⟩) p.path.length a.hc) p.path.length (ints (nats p.path)), r11O a.C p.K p.th a.yc t.cl] _ from by repeat (with_reducible first | exact HS.out | apply Sx.alloc | apply Sx.drewN | apply Sx.drew)) 1 (by simp))) (fun Rq hr => blk_store hr 12 (i64 6)))) 1 (by simp)⟩
end
end Go.Proofs.Ythaceckccobgeaa
