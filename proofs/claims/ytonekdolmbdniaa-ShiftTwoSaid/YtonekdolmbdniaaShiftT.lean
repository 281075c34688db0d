/- package shift: the machines, Step of a machine's state, and a machine that is played. -/
import Derived.Test.YtonekdolmbdniaaShiftS
namespace Go.Proofs.Ytonekdolmbdniaa
open Go.RowKit
set_option linter.unusedVariables false
set_option linter.unusedSimpArgs false
set_option maxRecDepth 100000

def madeD (N : Nat) (li av v n : Int) (sb kk : Nat) : Nat → Value → World → Prop
  | 10 | 11 => fun u w => ∃ x, u = ptr x ∧ Blk w x 85 [i64 li, i64 av, i64 v, i64 n, i64 0, .slice (some ⟨sb, 0, none⟩) kk kk, i64 0, i64 0, i64 0, .bool false, i64 0] ∧ N ≤ x
  | _ => fun _ _ => True
theorem madeD_stable {N : Nat} {li av v n : Int} {sb kk : Nat} : Stable (madeD N li av v n sb kk) := by
  intro i u w w' h hk
  unfold madeD at *
  split at h
  · obtain ⟨x, e, hb, hx⟩ := h
    exact ⟨x, e, hk.blk hb (fun h => h), hx⟩
  · obtain ⟨x, e, hb, hx⟩ := h
    exact ⟨x, e, hk.blk hb (fun h => h), hx⟩
  · trivial
set_option maxHeartbeats 4000000 in
theorem sh_made (t s g l r k : Int) (PA : Option Addr) (pn pc : Nat) (LA : Option Addr) (ln lc : Nat) (v n : Int) (sb kk : Nat) (w : World) (hs0 : 1 ≤ s) (hs1 : s ≤ 8) (h0 : 0 ≤ v) (h1 : v ≤ 1000) :
    Calls Try.prog 42 #[.agg #[i64 t, i64 s, i64 g, i64 l, i64 r, i64 k, .slice PA pn pc, .slice LA ln lc], i64 v, i64 n, .slice (some ⟨sb, 0, none⟩) kk kk] w fun e w' => ∃ x, e = .returned (ptr x) ∧
      Blk w' x 85 [i64 (v * (6 + 2 * s)), i64 (v * (6 + 2 * s) + 1), i64 v, i64 n, i64 0, .slice (some ⟨sb, 0, none⟩) kk kk, i64 0, i64 0, i64 0, .bool false, i64 0] ∧ Keep0 w w' ∧ w.heap.size ≤ x := by
  go_enter Try.func42, Try.ntmps42
  go_wp2_with fail
  have HB : Hid (Blk (w.alloc (.cells #[i64 t, i64 s, i64 g, i64 l, i64 r, i64 k, .slice PA pn pc, .slice LA ln lc] 24)) w.heap.size 24 [i64 t, i64 s, i64 g, i64 l, i64 r, i64 k, .slice PA pn pc, .slice LA ln lc]) := hid (Blk.made rfl rfl)
  have HK0 : Hid (Keep0 w (w.alloc (.cells #[i64 t, i64 s, i64 g, i64 l, i64 r, i64 k, .slice PA pn pc, .slice LA ln lc] 24))) := hid ((Keep.refl _ _).alloc _)
  generalize w.alloc (.cells #[i64 t, i64 s, i64 g, i64 l, i64 r, i64 k, .slice PA pn pc, .slice LA ln lc] 24) = w0 at *
  apply wp_region_free (WI := fun S gh wx => Keep0 w0 wx ∧ GWI (madeD w0.heap.size (v * (6 + 2 * s)) (v * (6 + 2 * s) + 1) v n sb kk) S gh wx) (by kernel_rfl) (by kernel_rfl)
  case hob =>
    apply ObligF.fixed
    case h =>
      intro S gh w1 hwi hSi hd hcl
      apply StepOk.intro
      intro K hK
      have cb := (hwi.1.blk HB.out (fun h => h)).k8
      go_simp
      apply hK
      · rfl
      · conv => (lhs; whnf)
      · exact ⟨hwi.1, GWI.fixed hwi.2 trivial⟩
    simp only [put_lit, put_none, List.set_cons_succ, List.set_cons_zero]
    apply ObligF.fixed
    case h =>
      intro S gh w1 hwi hSi hd hcl
      apply StepOk.intro
      intro K hK
      have cb := (hwi.1.blk HB.out (fun h => h)).k8
      go_simp
      apply hK
      · rfl
      · conv => (lhs; whnf)
      · exact ⟨hwi.1, GWI.fixed hwi.2 trivial⟩
    simp only [put_lit, put_none, List.set_cons_succ, List.set_cons_zero]
    apply ObligF.fixed
    case h =>
      intro S gh w1 hwi hSi hd hcl
      apply StepOk.intro
      intro K hK
      have cb := (hwi.1.blk HB.out (fun h => h)).k8
      go_simp
      refine (plan_Limit t s g l r k PA pn pc LA ln lc v _ hs0 hs1 h0 h1).mono ?_
      rintro e w2 ⟨rfl, hk⟩
      apply hK
      · rfl
      · conv => (lhs; whnf)
      · exact ⟨Keep0.step hwi.1 hk, GWI.fixed (hwi.2.keep madeD_stable hk) trivial⟩
    simp only [put_lit, put_none, List.set_cons_succ, List.set_cons_zero]
    apply ObligF.fixed
    case h =>
      intro S gh w1 hwi hSi hd hcl
      apply StepOk.intro
      intro K hK
      have cb := (hwi.1.blk HB.out (fun h => h)).k8
      go_simp
      apply hK
      · rfl
      · conv => (lhs; whnf)
      · exact ⟨hwi.1, GWI.fixed hwi.2 trivial⟩
    simp only [put_lit, put_none, List.set_cons_succ, List.set_cons_zero]
    apply ObligF.fixed
    case h =>
      intro S gh w1 hwi hSi hd hcl
      apply StepOk.intro
      intro K hK
      have cb := (hwi.1.blk HB.out (fun h => h)).k8
      go_simp
      apply hK
      · rfl
      · conv => (lhs; whnf)
      · exact ⟨hwi.1, GWI.fixed hwi.2 trivial⟩
    simp only [put_lit, put_none, List.set_cons_succ, List.set_cons_zero]
    apply ObligF.fixed
    case h =>
      intro S gh w1 hwi hSi hd hcl
      apply StepOk.intro
      intro K hK
      have cb := (hwi.1.blk HB.out (fun h => h)).k8
      go_simp
      refine (plan_Avail t s g l r k PA pn pc LA ln lc v _ hs0 hs1 h0 h1).mono ?_
      rintro e w2 ⟨rfl, hk⟩
      apply hK
      · rfl
      · conv => (lhs; whnf)
      · exact ⟨Keep0.step hwi.1 hk, GWI.fixed (hwi.2.keep madeD_stable hk) trivial⟩
    simp only [put_lit, put_none, List.set_cons_succ, List.set_cons_zero]
    apply ObligF.fixed
    case h =>
      intro S gh w1 hwi hSi hd hcl
      apply StepOk.intro
      intro K hK
      have cb := (hwi.1.blk HB.out (fun h => h)).k8
      go_simp
      apply hK
      · rfl
      · conv => (lhs; whnf)
      · exact ⟨hwi.1, GWI.fixed hwi.2 trivial⟩
    simp only [put_lit, put_none, List.set_cons_succ, List.set_cons_zero]
    apply ObligF.fixed
    case h =>
      intro S gh w1 hwi hSi hd hcl
      apply StepOk.intro
      intro K hK
      have cb := (hwi.1.blk HB.out (fun h => h)).k8
      go_simp
      apply hK
      · rfl
      · conv => (lhs; whnf)
      · exact ⟨hwi.1, GWI.fixed hwi.2 trivial⟩
    simp only [put_lit, put_none, List.set_cons_succ, List.set_cons_zero]
    apply ObligF.fixed
    case h =>
      intro S gh w1 hwi hSi hd hcl
      apply StepOk.intro
      intro K hK
      have cb := (hwi.1.blk HB.out (fun h => h)).k8
      go_simp
      apply hK
      · rfl
      · conv => (lhs; whnf)
      · exact ⟨hwi.1, GWI.fixed hwi.2 trivial⟩
    simp only [put_lit, put_none, List.set_cons_succ, List.set_cons_zero]
    apply ObligF.fixed
    case h =>
      intro S gh w1 hwi hSi hd hcl
      apply StepOk.intro
      intro K hK
      have cb := (hwi.1.blk HB.out (fun h => h)).k8
      go_simp
      apply hK
      · rfl
      · conv => (lhs; whnf)
      · exact ⟨hwi.1, GWI.fixed hwi.2 trivial⟩
    simp only [put_lit, put_none, List.set_cons_succ, List.set_cons_zero]
    apply ObligF.free
    case h =>
      intro S gh w1 hwi hSi hd hcl
      apply StepG.intro
      intro K hK
      have cb := (hwi.1.blk HB.out (fun h => h)).k8
      go_simp
      apply hK
      · rfl
      · exact ⟨hwi.1.alloc _, GWI.free (hwi.2.keep madeD_stable ((Keep.refl _ _).alloc _)) ⟨_, rfl, Blk.made rfl rfl, hwi.1.size⟩⟩
    simp only [put_lit, put_none, List.set_cons_succ, List.set_cons_zero]
    apply ObligF.free
    case h =>
      intro S gh w1 hwi hSi hd hcl
      apply StepG.intro
      intro K hK
      obtain ⟨x1, e1, hb1, hx1⟩ := hwi.2 10 (hd ⟨10, .data⟩ (by simp) rfl)
      go_simp
      apply hK
      · rfl
      · exact ⟨hwi.1, GWI.free hwi.2 ⟨x1, rfl, hb1, hx1⟩⟩
    simp only [put_lit, put_none, List.set_cons_succ, List.set_cons_zero]
    exact ObligF.nil
  case h0 =>
    exact ⟨(Keep.refl _ _).drew, GWI.start _ _ _⟩
  case hend =>
    intro S gh wx hwi hall
    obtain ⟨x, e, hb, hx⟩ := hwi.2 11 (hall 11 (by decide))
    have HKX := hid hwi.1
    have HBX := hid hb
    rw [e]
    clear hwi hall hb
    go_wp2_with fail
    go_ret
    exact ⟨x, rfl, HBX.out, HK0.out.trans HKX.out (fun _ _ h => h), Nat.le_trans HK0.out.size hx⟩

/-- the functions of a machine of a kind -/
def shfs (kd : Nat) : List Value :=
  if kd = 0 then [.func (.func 45) #[] #[]]
  else if kd = 1 then [.func (.func 43) #[] #[], .func (.func 44) #[] #[], .func (.func 45) #[] #[]]
  else [.func (.func 46) #[] #[], .func (.func 47) #[] #[], .func (.func 48) #[] #[]]
/-- what the makers of machines leave -/
def Made (kd : Nat) (s v n : Int) (w : World) (e : Ending) (w' : World) : Prop :=
  ∃ x sb, e = .returned (ptr x) ∧ Blk w' x 85 [i64 (v * (6 + 2 * s)), i64 (v * (6 + 2 * s) + 1), i64 v, i64 n, i64 0, .slice (some ⟨sb, 0, none⟩) (if kd = 0 then 1 else 3) (if kd = 0 then 1 else 3), i64 0, i64 0, i64 0, .bool false, i64 0] ∧ Blk w' sb 90 (shfs kd) ∧ Keep0 w w' ∧ w.heap.size ≤ x ∧ w.heap.size ≤ sb
set_option maxHeartbeats 1000000 in
theorem sh_Refund (t s g l r k : Int) (PA : Option Addr) (pn pc : Nat) (LA : Option Addr) (ln lc : Nat) (v n : Int) (w : World) (hs0 : 1 ≤ s) (hs1 : s ≤ 8) (h0 : 0 ≤ v) (h1 : v ≤ 1000) :
    Calls Try.prog 36 #[.agg #[i64 t, i64 s, i64 g, i64 l, i64 r, i64 k, .slice PA pn pc, .slice LA ln lc], i64 v, i64 n] w (Made 0 s v n w) := by
  go_enter Try.func36, Try.ntmps36
  go_wp2_with fail
  have HK0 : Hid (Keep0 w ((w.alloc (.cells #[i64 t, i64 s, i64 g, i64 l, i64 r, i64 k, .slice PA pn pc, .slice LA ln lc] 24)).alloc (.cells #[.func (.func 45) #[] #[]] 90))) := hid (((Keep.refl _ _).alloc _).alloc _)
  have hst := Blk.made (w := (w.alloc (.cells #[i64 t, i64 s, i64 g, i64 l, i64 r, i64 k, .slice PA pn pc, .slice LA ln lc] 24))) (b := (w.alloc (.cells #[i64 t, i64 s, i64 g, i64 l, i64 r, i64 k, .slice PA pn pc, .slice LA ln lc] 24)).heap.size) (t := 90) (cs := [.func (.func 45) #[] #[]]) rfl rfl
  rw [show ((w.alloc (.cells #[i64 t, i64 s, i64 g, i64 l, i64 r, i64 k, .slice PA pn pc, .slice LA ln lc] 24))).heap.size = w.heap.size + 1 from by simp] at hst
  have hsz : w.heap.size ≤ w.heap.size + 1 := by omega
  refine (sh_made t s g l r k PA pn pc LA ln lc v n _ 1 _ hs0 hs1 h0 h1).mono ?_
  rintro e w1 ⟨x, rfl, hb, hk, hx⟩
  have HB1 := hid hb
  have HT1 := hid (hk.blk hst (fun h => h))
  have HK1 : Hid (Keep0 w w1) := hid (HK0.out.trans hk (fun _ _ h => h))
  have hx' := Nat.le_trans HK0.out.size hx
  clear hb hk hst HK0
  go_wp2_with fail
  go_ret
  exact ⟨x, _, rfl, HB1.out, HT1.out, HK1.out, hx', hsz⟩
set_option maxHeartbeats 1000000 in
theorem sh_Raise (t s g l r k : Int) (PA : Option Addr) (pn pc : Nat) (LA : Option Addr) (ln lc : Nat) (v n : Int) (w : World) (hs0 : 1 ≤ s) (hs1 : s ≤ 8) (h0 : 0 ≤ v) (h1 : v ≤ 1000) :
    Calls Try.prog 21 #[.agg #[i64 t, i64 s, i64 g, i64 l, i64 r, i64 k, .slice PA pn pc, .slice LA ln lc], i64 v, i64 n] w (Made 1 s v n w) := by
  go_enter Try.func21, Try.ntmps21
  go_wp2_with fail
  have HK0 : Hid (Keep0 w ((w.alloc (.cells #[i64 t, i64 s, i64 g, i64 l, i64 r, i64 k, .slice PA pn pc, .slice LA ln lc] 24)).alloc (.cells #[.func (.func 43) #[] #[], .func (.func 44) #[] #[], .func (.func 45) #[] #[]] 90))) := hid (((Keep.refl _ _).alloc _).alloc _)
  have hst := Blk.made (w := (w.alloc (.cells #[i64 t, i64 s, i64 g, i64 l, i64 r, i64 k, .slice PA pn pc, .slice LA ln lc] 24))) (b := (w.alloc (.cells #[i64 t, i64 s, i64 g, i64 l, i64 r, i64 k, .slice PA pn pc, .slice LA ln lc] 24)).heap.size) (t := 90) (cs := [.func (.func 43) #[] #[], .func (.func 44) #[] #[], .func (.func 45) #[] #[]]) rfl rfl
  rw [show ((w.alloc (.cells #[i64 t, i64 s, i64 g, i64 l, i64 r, i64 k, .slice PA pn pc, .slice LA ln lc] 24))).heap.size = w.heap.size + 1 from by simp] at hst
  have hsz : w.heap.size ≤ w.heap.size + 1 := by omega
  refine (sh_made t s g l r k PA pn pc LA ln lc v n _ 3 _ hs0 hs1 h0 h1).mono ?_
  rintro e w1 ⟨x, rfl, hb, hk, hx⟩
  have HB1 := hid hb
  have HT1 := hid (hk.blk hst (fun h => h))
  have HK1 : Hid (Keep0 w w1) := hid (HK0.out.trans hk (fun _ _ h => h))
  have hx' := Nat.le_trans HK0.out.size hx
  clear hb hk hst HK0
  go_wp2_with fail
  go_ret
  exact ⟨x, _, rfl, HB1.out, HT1.out, HK1.out, hx', hsz⟩
set_option maxHeartbeats 1000000 in
theorem sh_Lower (t s g l r k : Int) (PA : Option Addr) (pn pc : Nat) (LA : Option Addr) (ln lc : Nat) (v n : Int) (w : World) (hs0 : 1 ≤ s) (hs1 : s ≤ 8) (h0 : 0 ≤ v) (h1 : v ≤ 1000) :
    Calls Try.prog 22 #[.agg #[i64 t, i64 s, i64 g, i64 l, i64 r, i64 k, .slice PA pn pc, .slice LA ln lc], i64 v, i64 n] w (Made 2 s v n w) := by
  go_enter Try.func22, Try.ntmps22
  go_wp2_with fail
  have HK0 : Hid (Keep0 w ((w.alloc (.cells #[i64 t, i64 s, i64 g, i64 l, i64 r, i64 k, .slice PA pn pc, .slice LA ln lc] 24)).alloc (.cells #[.func (.func 46) #[] #[], .func (.func 47) #[] #[], .func (.func 48) #[] #[]] 90))) := hid (((Keep.refl _ _).alloc _).alloc _)
  have hst := Blk.made (w := (w.alloc (.cells #[i64 t, i64 s, i64 g, i64 l, i64 r, i64 k, .slice PA pn pc, .slice LA ln lc] 24))) (b := (w.alloc (.cells #[i64 t, i64 s, i64 g, i64 l, i64 r, i64 k, .slice PA pn pc, .slice LA ln lc] 24)).heap.size) (t := 90) (cs := [.func (.func 46) #[] #[], .func (.func 47) #[] #[], .func (.func 48) #[] #[]]) rfl rfl
  rw [show ((w.alloc (.cells #[i64 t, i64 s, i64 g, i64 l, i64 r, i64 k, .slice PA pn pc, .slice LA ln lc] 24))).heap.size = w.heap.size + 1 from by simp] at hst
  have hsz : w.heap.size ≤ w.heap.size + 1 := by omega
  refine (sh_made t s g l r k PA pn pc LA ln lc v n _ 3 _ hs0 hs1 h0 h1).mono ?_
  rintro e w1 ⟨x, rfl, hb, hk, hx⟩
  have HB1 := hid hb
  have HT1 := hid (hk.blk hst (fun h => h))
  have HK1 : Hid (Keep0 w w1) := hid (HK0.out.trans hk (fun _ _ h => h))
  have hx' := Nat.le_trans HK0.out.size hx
  clear hb hk hst HK0
  go_wp2_with fail
  go_ret
  exact ⟨x, _, rfl, HB1.out, HT1.out, HK1.out, hx', hsz⟩

theorem callF_more (args : Array Value) (w : World) : (callFunc 45 args).run Try.prog w = .ok (.enter 45 args) w := by go_simp
theorem callF_height (args : Array Value) (w : World) : (callFunc 43 args).run Try.prog w = .ok (.enter 43 args) w := by go_simp
theorem callF_up (args : Array Value) (w : World) : (callFunc 44 args).run Try.prog w = .ok (.enter 44 args) w := by go_simp
theorem callF_rest (args : Array Value) (w : World) : (callFunc 46 args).run Try.prog w = .ok (.enter 46 args) w := by go_simp
theorem callF_out (args : Array Value) (w : World) : (callFunc 47 args).run Try.prog w = .ok (.enter 47 args) w := by go_simp
theorem callF_down (args : Array Value) (w : World) : (callFunc 48 args).run Try.prog w = .ok (.enter 48 args) w := by go_simp

def atN (kd : Nat) (t : SS) : Int := if kd = 0 then (if t.st = 2 then 0 else 9) else if t.st = 3 then (if t.bad = true then 9 else 11) else (t.st : Int)
def aeN (kd : Nat) (b : Bool) : Int := if b = true then (if kd = 1 then 6 else 4) else 0
def anN (kd : Nat) (nd : Int) (b : Bool) : Int := if b = true then (if kd = 1 then 0 else nd) else 0
/-- a machine's cells, from its state -/
def scs (kd li av : Nat) (nd n : Int) (sb : Nat) (t : SS) : List Value := shc li av nd n t.saw sb (if kd = 0 then 1 else 3) (atN kd t) (aeN kd t.bad) (anN kd nd t.bad)
/-- the word that a machine looks at, and the other one -/
def sF (kd li av : Nat) : Nat := if kd = 2 then av else li
def sG (kd li av : Nat) : Nat := if kd = 2 then li else av

section
variable {B : Nat} {w : World} {m a x : Nat} {lv : Value} {kd li av sb : Nat} {nd n X : Int}
/-- what Step leaves -/
def ShQ (B : Nat) (w : World) (m a : Nat) (lv : Value) (x kd li av : Nat) (nd n : Int) (sb : Nat) (t : SS) (w' : World) : Prop :=
  ∃ lv', MemAt B w' m a lv' t.W t.L ∧ Blk w' x 85 (scs kd li av nd n sb t) ∧ Keep (fun k => MF m a lv k ∨ k = x) w w' ∧ (∀ k, lv'.ownBlock = some k → lv.ownBlock = some k ∨ w.heap.size ≤ k) ∧ Blk w' sb 90 (shfs kd)

set_option maxHeartbeats 1000000 in
theorem sh_over {li av k : Nat} {saw at_ ae an : Int} (hx : Blk w x 85 (shc li av nd n saw sb k at_ ae an)) (ha : (k : Int) ≤ at_) (hk : k ≤ 10) :
    Calls Try.prog 23 #[ptr x, ptr m] w fun e w' => e = .returned (.bool true) ∧ Keep0 w w' := by
  have hx1 : Blk w x 85 [i64 li, i64 av, i64 nd, i64 n, i64 saw, .slice (some ⟨sb, 0, none⟩) k k, i64 at_, i64 ae, i64 0, .bool false, i64 an] := hx
  have qx := hx1.k11
  clear hx hx1
  have g1 : ¬ at_ < (k : Int) := by omega
  go_enter Try.func23, Try.ntmps23
  go_wp2_with fail
  go_region
  go_wp2_with fail
  go_region
  go_wp2_with fail
  go_ret
  exact ⟨rfl, (Keep.refl _ _).drew.drew⟩

set_option maxHeartbeats 2000000 in
theorem shift_Step (t : SS) (hm : MemAt B w m a lv t.W t.L) (hx : Blk w x 85 (scs kd li av nd n sb t)) (ht : Blk w sb 90 (shfs kd)) (hi : SInv kd (sF kd li av) (sG kd li av) n X t) (hX : 0 ≤ X ∧ X ≤ 2199023255552) (hL : t.L.length ≤ 1000000000) :
    Calls Try.prog 23 #[ptr x, ptr m] w fun e w' => e = .returned (.bool (sStp kd (sF kd li av) (sG kd li av) n t).2) ∧ ShQ B w m a lv x kd li av nd n sb (sStp kd (sF kd li av) (sG kd li av) n t).1 w' := by
  by_cases h3 : t.st = 3
  · have e1 : sNext kd (sF kd li av) (sG kd li av) n t = t := sNext_over h3
    show Calls _ _ _ _ (fun e w' => e = .returned (.bool (decide ((sNext kd (sF kd li av) (sG kd li av) n t).st = 3))) ∧ ShQ B w m a lv x kd li av nd n sb (sNext kd (sF kd li av) (sG kd li av) n t) w')
    rw [e1, h3]
    refine (sh_over hx (by unfold atN; rw [h3]; split <;> simp <;> split <;> simp) (by split <;> omega)).mono ?_
    rintro e w' ⟨rfl, hk⟩
    exact ⟨rfl, lv, hm.same hk, hk.blk hx (fun h => h), hk.to, fun k h => Or.inl h, hk.blk ht (fun h => h)⟩
  · obtain ⟨W, L, st, saw, bad⟩ := t
    obtain ⟨lf, lg, ne, k2, n1, wf, wg, sw, nx, k0, b⟩ := hi
    simp only at *
    obtain rfl : bad = false := by
      cases bad with
      | false => rfl
      | true => have := b rfl; omega
    have hk : kd = 0 ∨ kd = 1 ∨ kd = 2 := by omega
    have hst : st = 0 ∨ st = 1 ∨ st = 2 := by omega
    rcases hk with rfl | rfl | rfl
    · obtain rfl : st = 2 := by have := (k0 rfl).1; omega
      simp [sF, sG] at lf lg ne wf wg
      have e1 : sNext 0 li av n ⟨W, L, 2, saw, false⟩ = ⟨W.set av (rd W av + n), L ++ [⟨2, av, n, rd W av + n, false⟩], 3, saw, false⟩ := by simp [sNext, sBy]
      show Calls _ _ _ _ (fun e w' => e = .returned (.bool (decide ((sNext 0 li av n ⟨W, L, 2, saw, false⟩).st = 3))) ∧ ShQ B w m a lv x 0 li av nd n sb (sNext 0 li av n ⟨W, L, 2, saw, false⟩) w')
      rw [e1]
      refine (sh_Step 45 (shfs 0) 0 (9) (saw) (0) (0) (9) (W.set av (rd W av + n)) (L ++ [⟨2, av, n, rd W av + n, false⟩]) hm hx ht rfl (by decide) (by decide) rfl callF_more (fun w1 hm1 hx1 => by have h := sh_more hm1 hx1 (by omega) (by omega) (by omega) hL; skip; exact h) (by decide) (by decide)).mono ?_
      rintro e w' ⟨rfl, lv', h1, h2, h3, h4, h5⟩
      exact ⟨rfl, lv', h1, h2, h3, h4, h5⟩
    · simp [sF, sG] at lf lg ne wf wg
      rcases hst with rfl | rfl | rfl
      · cases hr : sRef 1 n (rd W li)
        · have e1 : sNext 1 li av n ⟨W, L, 0, saw, false⟩ = ⟨W, L ++ [⟨1, li, rd W li, 0, false⟩], 1, rd W li, false⟩ := by simp [sNext, hr]
          show Calls _ _ _ _ (fun e w' => e = .returned (.bool (decide ((sNext 1 li av n ⟨W, L, 0, saw, false⟩).st = 3))) ∧ ShQ B w m a lv x 1 li av nd n sb (sNext 1 li av n ⟨W, L, 0, saw, false⟩) w')
          rw [e1]
          refine (sh_Step 43 (shfs 1) 0 (1) (rd W li) (0) (0) (1) (W) (L ++ [⟨1, li, rd W li, 0, false⟩]) hm hx ht rfl (by decide) (by decide) rfl callF_height (fun w1 hm1 hx1 => by have h := sh_height hm1 hx1 (by omega) n1 hL; rw [hr] at h; exact h) (by decide) (by decide)).mono ?_
          rintro e w' ⟨rfl, lv', h1, h2, h3, h4, h5⟩
          exact ⟨rfl, lv', h1, h2, h3, h4, h5⟩
        · have e1 : sNext 1 li av n ⟨W, L, 0, saw, false⟩ = ⟨W, L ++ [⟨1, li, rd W li, 0, false⟩], 3, rd W li, true⟩ := by simp [sNext, hr]
          show Calls _ _ _ _ (fun e w' => e = .returned (.bool (decide ((sNext 1 li av n ⟨W, L, 0, saw, false⟩).st = 3))) ∧ ShQ B w m a lv x 1 li av nd n sb (sNext 1 li av n ⟨W, L, 0, saw, false⟩) w')
          rw [e1]
          refine (sh_Step 43 (shfs 1) 0 (9) (rd W li) (6) (0) (9) (W) (L ++ [⟨1, li, rd W li, 0, false⟩]) hm hx ht rfl (by decide) (by decide) rfl callF_height (fun w1 hm1 hx1 => by have h := sh_height hm1 hx1 (by omega) n1 hL; rw [hr] at h; exact h) (by decide) (by decide)).mono ?_
          rintro e w' ⟨rfl, lv', h1, h2, h3, h4, h5⟩
          exact ⟨rfl, lv', h1, h2, h3, h4, h5⟩
      · cases hq : (rd W li == saw)
        · have e1 : sNext 1 li av n ⟨W, L, 1, saw, false⟩ = ⟨casW W li saw (saw + n), L ++ [⟨3, li, saw, saw + n, false⟩], 0, saw, false⟩ := by have h0 := hq; simp only [beq_iff_eq, beq_eq_false_iff_ne, ne_eq] at h0; simp [sNext, sBy, hq, h0, Int.sub_eq_add_neg]
          show Calls _ _ _ _ (fun e w' => e = .returned (.bool (decide ((sNext 1 li av n ⟨W, L, 1, saw, false⟩).st = 3))) ∧ ShQ B w m a lv x 1 li av nd n sb (sNext 1 li av n ⟨W, L, 1, saw, false⟩) w')
          rw [e1]
          refine (sh_Step 44 (shfs 1) 1 (0) (saw) (0) (0) (-1) (casW W li saw (saw + n)) (L ++ [⟨3, li, saw, saw + n, false⟩]) hm hx ht rfl (by decide) (by decide) rfl callF_up (fun w1 hm1 hx1 => by have h := sh_up (saw := saw) hm1 hx1 (by omega) (by omega) (by omega) hL; rw [hq] at h; exact h) (by decide) (by decide)).mono ?_
          rintro e w' ⟨rfl, lv', h1, h2, h3, h4, h5⟩
          exact ⟨rfl, lv', h1, h2, h3, h4, h5⟩
        · have e1 : sNext 1 li av n ⟨W, L, 1, saw, false⟩ = ⟨casW W li saw (saw + n), L ++ [⟨3, li, saw, saw + n, true⟩], 2, saw, false⟩ := by have h0 := hq; simp only [beq_iff_eq, beq_eq_false_iff_ne, ne_eq] at h0; simp [sNext, sBy, hq, h0, Int.sub_eq_add_neg]
          show Calls _ _ _ _ (fun e w' => e = .returned (.bool (decide ((sNext 1 li av n ⟨W, L, 1, saw, false⟩).st = 3))) ∧ ShQ B w m a lv x 1 li av nd n sb (sNext 1 li av n ⟨W, L, 1, saw, false⟩) w')
          rw [e1]
          refine (sh_Step 44 (shfs 1) 1 (2) (saw) (0) (0) (1) (casW W li saw (saw + n)) (L ++ [⟨3, li, saw, saw + n, true⟩]) hm hx ht rfl (by decide) (by decide) rfl callF_up (fun w1 hm1 hx1 => by have h := sh_up (saw := saw) hm1 hx1 (by omega) (by omega) (by omega) hL; rw [hq] at h; exact h) (by decide) (by decide)).mono ?_
          rintro e w' ⟨rfl, lv', h1, h2, h3, h4, h5⟩
          exact ⟨rfl, lv', h1, h2, h3, h4, h5⟩
      · have e1 : sNext 1 li av n ⟨W, L, 2, saw, false⟩ = ⟨W.set av (rd W av + n), L ++ [⟨2, av, n, rd W av + n, false⟩], 3, saw, false⟩ := by simp [sNext, sBy]
        show Calls _ _ _ _ (fun e w' => e = .returned (.bool (decide ((sNext 1 li av n ⟨W, L, 2, saw, false⟩).st = 3))) ∧ ShQ B w m a lv x 1 li av nd n sb (sNext 1 li av n ⟨W, L, 2, saw, false⟩) w')
        rw [e1]
        refine (sh_Step 45 (shfs 1) 2 (11) (saw) (0) (0) (9) (W.set av (rd W av + n)) (L ++ [⟨2, av, n, rd W av + n, false⟩]) hm hx ht rfl (by decide) (by decide) rfl callF_more (fun w1 hm1 hx1 => by have h := sh_more hm1 hx1 (by omega) (by omega) (by omega) hL; skip; exact h) (by decide) (by decide)).mono ?_
        rintro e w' ⟨rfl, lv', h1, h2, h3, h4, h5⟩
        exact ⟨rfl, lv', h1, h2, h3, h4, h5⟩
    · simp [sF, sG] at lf lg ne wf wg
      rcases hst with rfl | rfl | rfl
      · cases hr : sRef 2 n (rd W av)
        · have e1 : sNext 2 av li n ⟨W, L, 0, saw, false⟩ = ⟨W, L ++ [⟨1, av, rd W av, 0, false⟩], 1, rd W av, false⟩ := by simp [sNext, hr]
          show Calls _ _ _ _ (fun e w' => e = .returned (.bool (decide ((sNext 2 av li n ⟨W, L, 0, saw, false⟩).st = 3))) ∧ ShQ B w m a lv x 2 li av nd n sb (sNext 2 av li n ⟨W, L, 0, saw, false⟩) w')
          rw [e1]
          refine (sh_Step 46 (shfs 2) 0 (1) (rd W av) (0) (0) (1) (W) (L ++ [⟨1, av, rd W av, 0, false⟩]) hm hx ht rfl (by decide) (by decide) rfl callF_rest (fun w1 hm1 hx1 => by have h := sh_rest hm1 hx1 (by omega) n1 hL; rw [hr] at h; exact h) (by decide) (by decide)).mono ?_
          rintro e w' ⟨rfl, lv', h1, h2, h3, h4, h5⟩
          exact ⟨rfl, lv', h1, h2, h3, h4, h5⟩
        · have e1 : sNext 2 av li n ⟨W, L, 0, saw, false⟩ = ⟨W, L ++ [⟨1, av, rd W av, 0, false⟩], 3, rd W av, true⟩ := by simp [sNext, hr]
          show Calls _ _ _ _ (fun e w' => e = .returned (.bool (decide ((sNext 2 av li n ⟨W, L, 0, saw, false⟩).st = 3))) ∧ ShQ B w m a lv x 2 li av nd n sb (sNext 2 av li n ⟨W, L, 0, saw, false⟩) w')
          rw [e1]
          refine (sh_Step 46 (shfs 2) 0 (9) (rd W av) (4) (nd) (9) (W) (L ++ [⟨1, av, rd W av, 0, false⟩]) hm hx ht rfl (by decide) (by decide) rfl callF_rest (fun w1 hm1 hx1 => by have h := sh_rest hm1 hx1 (by omega) n1 hL; rw [hr] at h; exact h) (by decide) (by decide)).mono ?_
          rintro e w' ⟨rfl, lv', h1, h2, h3, h4, h5⟩
          exact ⟨rfl, lv', h1, h2, h3, h4, h5⟩
      · cases hq : (rd W av == saw)
        · have e1 : sNext 2 av li n ⟨W, L, 1, saw, false⟩ = ⟨casW W av saw (saw - n), L ++ [⟨3, av, saw, saw - n, false⟩], 0, saw, false⟩ := by have h0 := hq; simp only [beq_iff_eq, beq_eq_false_iff_ne, ne_eq] at h0; simp [sNext, sBy, hq, h0, Int.sub_eq_add_neg]
          show Calls _ _ _ _ (fun e w' => e = .returned (.bool (decide ((sNext 2 av li n ⟨W, L, 1, saw, false⟩).st = 3))) ∧ ShQ B w m a lv x 2 li av nd n sb (sNext 2 av li n ⟨W, L, 1, saw, false⟩) w')
          rw [e1]
          refine (sh_Step 47 (shfs 2) 1 (0) (saw) (0) (0) (-1) (casW W av saw (saw - n)) (L ++ [⟨3, av, saw, saw - n, false⟩]) hm hx ht rfl (by decide) (by decide) rfl callF_out (fun w1 hm1 hx1 => by have h := sh_out (saw := saw) hm1 hx1 (by omega) (by omega) (by omega) hL; rw [hq] at h; exact h) (by decide) (by decide)).mono ?_
          rintro e w' ⟨rfl, lv', h1, h2, h3, h4, h5⟩
          exact ⟨rfl, lv', h1, h2, h3, h4, h5⟩
        · have e1 : sNext 2 av li n ⟨W, L, 1, saw, false⟩ = ⟨casW W av saw (saw - n), L ++ [⟨3, av, saw, saw - n, true⟩], 2, saw, false⟩ := by have h0 := hq; simp only [beq_iff_eq, beq_eq_false_iff_ne, ne_eq] at h0; simp [sNext, sBy, hq, h0, Int.sub_eq_add_neg]
          show Calls _ _ _ _ (fun e w' => e = .returned (.bool (decide ((sNext 2 av li n ⟨W, L, 1, saw, false⟩).st = 3))) ∧ ShQ B w m a lv x 2 li av nd n sb (sNext 2 av li n ⟨W, L, 1, saw, false⟩) w')
          rw [e1]
          refine (sh_Step 47 (shfs 2) 1 (2) (saw) (0) (0) (1) (casW W av saw (saw - n)) (L ++ [⟨3, av, saw, saw - n, true⟩]) hm hx ht rfl (by decide) (by decide) rfl callF_out (fun w1 hm1 hx1 => by have h := sh_out (saw := saw) hm1 hx1 (by omega) (by omega) (by omega) hL; rw [hq] at h; exact h) (by decide) (by decide)).mono ?_
          rintro e w' ⟨rfl, lv', h1, h2, h3, h4, h5⟩
          exact ⟨rfl, lv', h1, h2, h3, h4, h5⟩
      · have e1 : sNext 2 av li n ⟨W, L, 2, saw, false⟩ = ⟨W.set li (rd W li + -n), L ++ [⟨2, li, -n, rd W li + -n, false⟩], 3, saw, false⟩ := by simp [sNext, sBy]
        show Calls _ _ _ _ (fun e w' => e = .returned (.bool (decide ((sNext 2 av li n ⟨W, L, 2, saw, false⟩).st = 3))) ∧ ShQ B w m a lv x 2 li av nd n sb (sNext 2 av li n ⟨W, L, 2, saw, false⟩) w')
        rw [e1]
        refine (sh_Step 48 (shfs 2) 2 (11) (saw) (0) (0) (9) (W.set li (rd W li + -n)) (L ++ [⟨2, li, -n, rd W li + -n, false⟩]) hm hx ht rfl (by decide) (by decide) rfl callF_down (fun w1 hm1 hx1 => by have h := sh_down hm1 hx1 (by omega) (by omega) (by omega) hL; skip; exact h) (by decide) (by decide)).mono ?_
        rintro e w' ⟨rfl, lv', h1, h2, h3, h4, h5⟩
        exact ⟨rfl, lv', h1, h2, h3, h4, h5⟩
end

theorem callF_shStep (args : Array Value) (w : World) : (callFunc 23 args).run Try.prog w = .ok (.enter 23 args) w := by go_simp
theorem meth_shStep (x : Nat) (w : World) : (method 231 37 (ptr x) "Step").run Try.prog w = .ok (23, ptr x) w := by kernel_rfl

section
variable {B : Nat} {w : World} {m a x : Nat} {lv : Value} {kd li av sb : Nat} {nd n X : Int}
set_option maxHeartbeats 1000000 in
theorem sh_ans_any {c0 c1 c2 c3 c4 c5 c6 : Value} {e1 e2 : Int} (hx : Blk w x 85 [c0, c1, c2, c3, c4, c5, c6, i64 e1, i64 0, .bool false, i64 e2]) : Calls Try.prog 18 #[ptr x] w (Ret (.agg #[i64 e1, i64 0, .bool false, i64 e2]) w) := by
  have qx := hx.k11
  clear hx
  go_enter Try.func18, Try.ntmps18
  go_wp2
  exact bodyPost_ret (v := .agg #[i64 e1, i64 0, .bool false, i64 e2]) (by simp [results, Try.results18, go_sem]) rfl ⟨rfl, (Keep.refl _ _).alloc _⟩
theorem sh_Ans {t : SS} (hx : Blk w x 85 (scs kd li av nd n sb t)) : Calls Try.prog 18 #[ptr x] w (Ret (.agg #[i64 (aeN kd t.bad), i64 0, .bool false, i64 (anN kd nd t.bad)]) w) := sh_ans_any hx

def ShSys (B m a x kd li av : Nat) (nd n : Int) (sb : Nat) (X : Int) (len L0 : Nat) (lv0 : Value) (N : Nat) (k : Nat) (w : World) (t : SS) : Prop :=
  ∃ lv, MemAt B w m a lv t.W t.L ∧ (∀ k, lv.ownBlock = some k → lv0.ownBlock = some k ∨ N ≤ k) ∧ Blk w x 85 (scs kd li av nd n sb t) ∧ t.W.length = len ∧ t.L.length ≤ L0 + k ∧ SInv kd (sF kd li av) (sG kd li av) n (X + 1048576 * k) t ∧ N ≤ w.heap.size ∧ Blk w sb 90 (shfs kd)
theorem ShSys.same {len L0 N k : Nat} {lv0 : Value} {t : SS} {w' : World} (h : ShSys B m a x kd li av nd n sb X len L0 lv0 N k w t) (hk : Keep0 w w') : ShSys B m a x kd li av nd n sb X len L0 lv0 N k w' t := by
  obtain ⟨lv1, h1, h2, h3, h4, h5, h6, h8, h9⟩ := h
  exact ⟨lv1, h1.same hk, h2, hk.blk h3 (fun h => h), h4, h5, h6, Nat.le_trans h8 hk.size, hk.blk h9 (fun h => h)⟩
theorem ShSys.poke {len L0 N k : Nat} {lv0 : Value} {t : SS} (h : ShSys B m a x kd li av nd n sb X len L0 lv0 N k w t) (i y : Int) (h0 : 0 ≤ i) (hi : i < len) (hX : 0 ≤ X) (hok : (i = (sF kd li av : Nat) ∨ i = (sG kd li av : Nat)) → -X ≤ y ∧ y ≤ X) :
    Calls Try.prog 33 #[ptr m, i64 i, i64 y] w fun e w' => e = .returned (.tuple #[]) ∧ ShSys B m a x kd li av nd n sb X len L0 lv0 N k w' (sPk t i.toNat y) ∧ Keep (fun b => (b = m ∨ b = a ∨ b = x ∨ lv0.ownBlock = some b) ∨ N ≤ b) w w' := by
  obtain ⟨lv1, h1, h2, h3, h4, h5, h6, h8, h9⟩ := h
  have hxa := h3.ne h1.words (by decide)
  have hsa := h9.ne h1.words (by decide)
  refine (mem_Poke i y h1 h0 (by rw [h4]; exact hi)).mono ?_
  rintro e w2 ⟨rfl, hm2, hk2⟩
  exact ⟨rfl, ⟨lv1, hm2, h2, hk2.blk h3 (fun e => hxa e), by simp [sPk, h4], h5, h6.poke _ _ (fun e => by have := hok (by omega); omega), Nat.le_trans h8 hk2.size, hk2.blk h9 (fun e => hsa e)⟩, hk2.mono (fun k e => Or.inl (Or.inr (Or.inl e)))⟩
theorem ShSys.step {len L0 N k : Nat} {lv0 : Value} {t : SS} (h : ShSys B m a x kd li av nd n sb X len L0 lv0 N k w t) (hk : k ≤ 2000) (hX : 0 ≤ X ∧ X ≤ 1099511627776) (hL : L0 ≤ 1000000) :
    Calls Try.prog 23 #[ptr x, ptr m] w fun e w' => e = .returned (.bool (sStp kd (sF kd li av) (sG kd li av) n t).2) ∧ ShSys B m a x kd li av nd n sb X len L0 lv0 N (k + 1) w' (sStp kd (sF kd li av) (sG kd li av) n t).1 ∧ Keep (fun b => (b = m ∨ b = a ∨ b = x ∨ lv0.ownBlock = some b) ∨ N ≤ b) w w' := by
  obtain ⟨lv1, h1, h2, h3, h4, h5, h6, h8, h9⟩ := h
  refine (shift_Step t h1 h3 h9 h6 (by omega) (by omega)).mono ?_
  rintro e w2 ⟨rfl, lv2, hm2, hx2, hk2, hl2, ht2⟩
  refine ⟨rfl, ⟨lv2, hm2, ?_, hx2, (sNext_len t).trans h4, ?_, (h6.step (by omega)).more (by omega), Nat.le_trans h8 hk2.size, ht2⟩, hk2.mono ?_⟩
  · intro k hk
    rcases hl2 k hk with h | h
    · exact h2 k h
    · exact Or.inr (Nat.le_trans h8 h)
  · show (sNext kd (sF kd li av) (sG kd li av) n t).L.length ≤ _
    by_cases h7 : t.st = 3
    · rw [sNext_over h7]; omega
    · rw [sNext_log t (by have := h6.nx; omega)]; omega
  · rintro k ((h | h | h) | h)
    · exact Or.inl (Or.inl h)
    · exact Or.inl (Or.inr (Or.inl h))
    · rcases h2 k h with h | h
      · exact Or.inl (Or.inr (Or.inr (Or.inr h)))
      · exact Or.inr h
    · exact Or.inl (Or.inr (Or.inr (Or.inl h)))
set_option maxHeartbeats 2000000 in
theorem play_shift (t : SS) (l : List Pk) (A0 : Option Addr) (b o c most : Nat) (hm : MemAt B w m a lv t.W t.L) (hx : Blk w x 85 (scs kd li av nd n sb t)) (ht : Blk w sb 90 (shfs kd)) (hi : SInv kd (sF kd li av) (sG kd li av) n X t) (hL : t.L.length ≤ 1000000) (hX : 0 ≤ X ∧ X ≤ 1099511627776)
    (hmost : most ≤ 2000) (hl : l.length ≤ 1000000) (hok : okPokesS (sF kd li av) (sG kd li av) X l) (hA0 : 0 < l.length → A0 = some ⟨b, o, none⟩ ∧ b < w.heap.size ∧ b ≠ m ∧ b ≠ a ∧ b ≠ x ∧ lv.ownBlock ≠ some b)
    (hcells : ∀ i (h : i < l.length), w.cell? ⟨b, o + i * 3, none⟩ = some (i64 l[i].at_) ∧ w.cell? ⟨b, o + i * 3 + 1, none⟩ = some (i64 l[i].w) ∧ w.cell? ⟨b, o + i * 3 + 2, none⟩ = some (i64 l[i].x)) :
    Calls Try.prog 15 #[ptr m, .iface 37 (ptr x), .slice A0 l.length c, i64 most] w fun e w' =>
      e = .returned (.tuple #[i64 (playF (sStp kd (sF kd li av) (sG kd li av) n) sPk t.W.length l most 0 t).2.1, .bool (playF (sStp kd (sF kd li av) (sG kd li av) n) sPk t.W.length l most 0 t).2.2]) ∧
      (∃ k, ShSys B m a x kd li av nd n sb X t.W.length t.L.length lv w.heap.size k w' (playF (sStp kd (sF kd li av) (sG kd li av) n) sPk t.W.length l most 0 t).1) ∧ Keep (fun k => (k = m ∨ k = a ∨ k = x ∨ lv.ownBlock = some k) ∨ w.heap.size ≤ k) w w' := by
  refine mem_Play (ShSys B m a x kd li av nd n sb X t.W.length t.L.length lv w.heap.size) (sStp kd (sF kd li av) (sG kd li av) n) sPk t.W.length 23 37 x m (fun k => k = m ∨ k = a ∨ k = x ∨ lv.ownBlock = some k) w.heap.size l A0 b o c most w t (by omega) hl (Nat.le_refl _) ?_ hcells ?_ ?_ ?_ ?_ (fun w => meth_shStep x w) callF_shStep ?_
  · intro h0
    obtain ⟨e, hb, hbm, hba, hbx, hbl⟩ := hA0 h0
    refine ⟨e, hb, ?_⟩
    rintro (h | h | h | h)
    · exact hbm h
    · exact hba h
    · exact hbx h
    · exact hbl h
  · rintro n w1 t1 ⟨lv1, h1, _, _, hlen, _⟩
    exact ⟨a, lv1, by rw [← hlen]; exact h1.mem⟩
  · rintro n w1 w2 t1 h hk
    exact h.same hk
  · rintro n w1 t1 i y ⟨p, hp, rfl, rfl⟩ h hi0 hi1
    exact h.poke p.w p.x hi0 hi1 hX.1 (fun e => hok p hp e)
  · rintro n w1 t1 hn h
    exact h.step (by omega) hX hL
  · exact ⟨lv, hm, fun _ h => Or.inl h, hx, rfl, by omega, hi.more (by omega), Nat.le_refl _, ht⟩
theorem shplay_keeps {w w' : World} {b : Nat} {lv : Value} {W : List Int} {L : List Acc} {T : TypeId} {cs ds : List Value} (hb : Blk w b T cs) (hm : MemAt B w m a lv W L) (hx : Blk w x 85 ds) (h1 : T ≠ 82) (h2 : T ≠ 3) (h3 : T ≠ 85) (h4 : T ≠ 96)
    (hk : Keep (fun k => (k = m ∨ k = a ∨ k = x ∨ lv.ownBlock = some k) ∨ w.heap.size ≤ k) w w') : Blk w' b T cs := hk.blk hb (by
  rintro ((h | h | h | h) | h)
  · exact hb.ne hm.mem h1 h
  · exact hb.ne hm.words h2 h
  · exact hb.ne hx h3 h
  · exact ownBlock_ne hm.log hb h4 h.symm
  · have := hb.lt; omega)
theorem shplay_keepx {w w' : World} {b : Nat} {lv : Value} {W : List Int} {L : List Acc} {cs : List Value} (hb : Blk w b 85 cs) (hm : MemAt B w m a lv W L) (hx : b ≠ x)
    (hk : Keep (fun k => (k = m ∨ k = a ∨ k = x ∨ lv.ownBlock = some k) ∨ w.heap.size ≤ k) w w') : Blk w' b 85 cs := hk.blk hb (by
  rintro ((h | h | h | h) | h)
  · exact hb.ne hm.mem (by decide) h
  · exact hb.ne hm.words (by decide) h
  · exact hx h
  · exact ownBlock_ne hm.log hb (by decide) h.symm
  · have := hb.lt; omega)
end
end Go.Proofs.Ytonekdolmbdniaa
