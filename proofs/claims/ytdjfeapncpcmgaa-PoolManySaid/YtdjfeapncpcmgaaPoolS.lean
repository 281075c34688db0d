/- package pool: Step, Ans, New, and a machine that is played. -/
import Derived.Test.YtdjfeapncpcmgaaPoolA
import Derived.Test.YtdjfeapncpcmgaaPoolB
import Derived.Test.YtdjfeapncpcmgaaPoolC
import Derived.Test.YtdjfeapncpcmgaaPoolD
import Derived.Test.YtdjfeapncpcmgaaGhost
namespace Go.Proofs.Ytdjfeapncpcmgaa
open Go.RowKit
set_option linter.unusedVariables false
set_option linter.unusedSimpArgs false
set_option maxRecDepth 100000
section
variable {B : Nat} {w : World} {m a x : Nat} {lv : Value} {av le : Nat} {nd n lim X : Int}

/-- what Step leaves -/
def PoolQ (B : Nat) (w : World) (m a : Nat) (lv : Value) (x av le : Nat) (nd n lim : Int) (t : PS) (w' : World) : Prop :=
  ∃ lv', MemAt B w' m a lv' t.W t.L ∧ Blk w' x 100 (pcs av le nd n lim t.next t) ∧ Keep (fun k => MF m a lv k ∨ k = x) w w' ∧ (∀ k, lv'.ownBlock = some k → lv.ownBlock = some k ∨ w.heap.size ≤ k)

theorem pool_step (t : PS) (hm : MemAt B w m a lv t.W t.L) (hx : Blk w x 100 (pcs av le nd n lim t.next t)) (hi : PInv av le n lim X t) (h7 : t.next < 7) (hX : X ≤ 4398046511104) (hL : t.L.length ≤ 1000000000) :
    Calls Try.prog 54 #[ptr x, ptr m] w (PoolP B w m a lv x av le nd n lim t.next (pNext av le n lim t)) := by
  have h : t.next = 0 ∨ t.next = 1 ∨ t.next = 2 ∨ t.next = 3 ∨ t.next = 4 ∨ t.next = 5 ∨ t.next = 6 := by omega
  rcases h with h | h | h | h | h | h | h <;> rw [h] at hx ⊢
  · exact pool_step0 t hm hx hi h hX hL
  · exact pool_step1 t hm hx hi h hX hL
  · exact pool_step2 t hm hx hi h hX hL
  · exact pool_step3 t hm hx hi h hX hL
  · exact pool_step4 t hm hx hi h hX hL
  · exact pool_step5 t hm hx hi h hX hL
  · exact pool_step6 t hm hx hi h hX hL

set_option maxHeartbeats 2000000 in
theorem pool_Step (t : PS) (hm : MemAt B w m a lv t.W t.L) (hx : Blk w x 100 (pcs av le nd n lim t.next t)) (hi : PInv av le n lim X t) (hX : X ≤ 4398046511104) (hL : t.L.length ≤ 1000000000) :
    Calls Try.prog 29 #[ptr x, ptr m] w fun e w' => e = .returned (.bool (pStp av le n lim t).2) ∧ PoolQ B w m a lv x av le nd n lim (pStp av le n lim t).1 w' := by
  by_cases h7 : t.next = 7
  · have e1 : (pStp av le n lim t).1 = t := pNext_over h7
    have e2 : (pStp av le n lim t).2 = true := by
      show decide ((pNext av le n lim t).next = 7) = true
      rw [pNext_over h7]; simpa using h7
    rw [e1, e2]
    have hx7 := hx
    rw [h7] at hx7
    have qx := hx7.k13
    have HX := hid hx
    have HM := hid hm
    clear e1 e2 hx hx7 hm hi
    go_enter Try.func29, Try.ntmps29
    go_wp2_with fail
    go_ret
    exact ⟨rfl, lv, HM.out, HX.out, Keep.refl _ _, fun _ h => Or.inl h⟩
  · have h7' : t.next < 7 := by have := hi.nx; omega
    have HS := hid (pool_step t hm hx hi h7' hX hL)
    have qx := hx.k13
    show Calls _ _ _ _ (fun e w' => e = .returned (.bool (decide ((pNext av le n lim t).next = 7))) ∧ PoolQ B w m a lv x av le nd n lim (pNext av le n lim t) w')
    generalize pNext av le n lim t = t' at *
    have g1 : ((t.next : Int) != 7) = true := by simp; omega
    generalize t.next = nx at *
    clear hm hx hi h7
    have hg2 : ((t'.next : Int) == 7) = decide (t'.next = 7) := by
      by_cases e : t'.next = 7
      · simp [e]
      · have : ((t'.next : Int) == 7) = false := by simp; omega
        rw [this]; simp [e]
    go_enter Try.func29, Try.ntmps29
    go_wp2_with fail
    refine HS.out.mono ?_
    rintro e w1 ⟨rfl, lv1, hm1, hx1, hk1, ho1⟩
    have HM1 := hid hm1
    have HX1 := hid hx1
    have HK1 := hid hk1
    have HO1 := hid ho1
    have hxm := pm_far hm1 hx1
    have qx1 := hx1.k13
    clear hm1 hx1 hk1 ho1 qx
    go_wp2_with fail
    go_ret
    refine ⟨by rw [← hg2]; rfl, lv1, HM1.out.keep ((Keep.refl (fun k => k = x) w1).set ⟨x, 5, none⟩ _ (fun _ => rfl)) (fun k h e => hxm (by have e' : k = x := e; exact e' ▸ h)), HX1.out.set 5 _, HK1.out.set _ _ (fun _ => Or.inr rfl), HO1.out⟩

/-- the answer, as a value -/
def pAns (nd : Int) (bad : Bool) : Value := .agg #[i64 (if bad = true then 4 else 0), i64 0, .bool false, i64 (if bad = true then nd else 0)]
set_option maxHeartbeats 1000000 in
theorem ans_any {c0 c1 c2 c3 c4 c5 c6 c7 c8 : Value} {e1 e2 : Int} (hx : Blk w x 100 [c0, c1, c2, c3, c4, c5, c6, c7, c8, i64 e1, i64 0, .bool false, i64 e2]) : Calls Try.prog 27 #[ptr x] w (Ret (.agg #[i64 e1, i64 0, .bool false, i64 e2]) w) := by
  have qx := hx.k13
  clear hx
  go_enter Try.func27, Try.ntmps27
  go_wp2
  exact bodyPost_ret (v := .agg #[i64 e1, i64 0, .bool false, i64 e2]) (by simp [results, Try.results27, go_sem]) rfl ⟨rfl, (Keep.refl _ _).alloc _⟩
theorem pool_Ans {t : PS} {nx : Nat} (hx : Blk w x 100 (pcs av le nd n lim nx t)) : Calls Try.prog 27 #[ptr x] w (Ret (pAns nd t.bad) w) := ans_any hx
end

def newD (N : Nat) (av le v n l : Int) : Nat → Value → World → Prop
  | 12 | 13 => fun u w => ∃ x, u = ptr x ∧ Blk w x 100 [i64 av, i64 le, i64 v, i64 n, i64 l, i64 0, i64 0, i64 0, i64 0, i64 0, i64 0, .bool false, i64 0] ∧ N ≤ x
  | _ => fun _ _ => True
theorem newD_stable {N : Nat} {av le v n l : Int} : Stable (newD N av le v n l) := by
  intro i u w w' h hk
  unfold newD at *
  split at h
  · obtain ⟨x, e, hb, hx⟩ := h
    exact ⟨x, e, hk.blk hb (fun h => h), hx⟩
  · obtain ⟨x, e, hb, hx⟩ := h
    exact ⟨x, e, hk.blk hb (fun h => h), hx⟩
  · trivial
set_option maxHeartbeats 4000000 in
theorem pool_New (t s g l r k : Int) (PA : Option Addr) (pn pc : Nat) (LA : Option Addr) (ln lc : Nat) (v n u : Int) (w : World) (hs0 : 1 ≤ s) (hs1 : s ≤ 8) (h0 : 0 ≤ v) (h1 : v ≤ 1000) (hu0 : 0 ≤ u) (hu1 : u ≤ 1000) :
    Calls Try.prog 22 #[.agg #[i64 t, i64 s, i64 g, i64 l, i64 r, i64 k, .slice PA pn pc, .slice LA ln lc], i64 v, i64 n, i64 u] w fun e w' => ∃ x, e = .returned (ptr x) ∧
      Blk w' x 100 [i64 (v * (6 + 2 * s) + 1), i64 (v * (6 + 2 * s) + 2 + u), i64 v, i64 n, i64 l, i64 0, i64 0, i64 0, i64 0, i64 0, i64 0, .bool false, i64 0] ∧ Keep0 w w' ∧ w.heap.size ≤ x := by
  go_enter Try.func22, Try.ntmps22
  go_wp2_with fail
  have HB : Hid (Blk (w.alloc (.cells #[i64 t, i64 s, i64 g, i64 l, i64 r, i64 k, .slice PA pn pc, .slice LA ln lc] 40)) w.heap.size 40 [i64 t, i64 s, i64 g, i64 l, i64 r, i64 k, .slice PA pn pc, .slice LA ln lc]) := hid (Blk.made rfl rfl)
  have HK0 : Hid (Keep0 w (w.alloc (.cells #[i64 t, i64 s, i64 g, i64 l, i64 r, i64 k, .slice PA pn pc, .slice LA ln lc] 40))) := hid ((Keep.refl _ _).alloc _)
  generalize w.alloc (.cells #[i64 t, i64 s, i64 g, i64 l, i64 r, i64 k, .slice PA pn pc, .slice LA ln lc] 40) = w0 at *
  apply wp_region_free (WI := fun S gh wx => Keep0 w0 wx ∧ GWI (newD w0.heap.size (v * (6 + 2 * s) + 1) (v * (6 + 2 * s) + 2 + u) v n l) S gh wx) (by kernel_rfl) (by kernel_rfl)
  case hob =>
    apply ObligF.fixed
    case h =>
      intro S gh w1 hwi hSi hd hcl
      apply StepOk.intro
      intro K hK
      have cb := (hwi.1.blk HB.out (fun h => h)).k8
      go_simp
      apply hK
      · rfl
      · conv => (lhs; whnf)
      · exact ⟨hwi.1, GWI.fixed hwi.2 trivial⟩
    simp only [put_lit, put_none, List.set_cons_succ, List.set_cons_zero]
    apply ObligF.fixed
    case h =>
      intro S gh w1 hwi hSi hd hcl
      apply StepOk.intro
      intro K hK
      have cb := (hwi.1.blk HB.out (fun h => h)).k8
      go_simp
      apply hK
      · rfl
      · conv => (lhs; whnf)
      · exact ⟨hwi.1, GWI.fixed hwi.2 trivial⟩
    simp only [put_lit, put_none, List.set_cons_succ, List.set_cons_zero]
    apply ObligF.fixed
    case h =>
      intro S gh w1 hwi hSi hd hcl
      apply StepOk.intro
      intro K hK
      have cb := (hwi.1.blk HB.out (fun h => h)).k8
      go_simp
      refine (plan_Avail t s g l r k PA pn pc LA ln lc v _ hs0 hs1 h0 h1).mono ?_
      rintro e w2 ⟨rfl, hk⟩
      apply hK
      · rfl
      · conv => (lhs; whnf)
      · exact ⟨Keep0.step hwi.1 hk, GWI.fixed (hwi.2.keep newD_stable hk) trivial⟩
    simp only [put_lit, put_none, List.set_cons_succ, List.set_cons_zero]
    apply ObligF.fixed
    case h =>
      intro S gh w1 hwi hSi hd hcl
      apply StepOk.intro
      intro K hK
      have cb := (hwi.1.blk HB.out (fun h => h)).k8
      go_simp
      apply hK
      · rfl
      · conv => (lhs; whnf)
      · exact ⟨hwi.1, GWI.fixed hwi.2 trivial⟩
    simp only [put_lit, put_none, List.set_cons_succ, List.set_cons_zero]
    apply ObligF.fixed
    case h =>
      intro S gh w1 hwi hSi hd hcl
      apply StepOk.intro
      intro K hK
      have cb := (hwi.1.blk HB.out (fun h => h)).k8
      go_simp
      apply hK
      · rfl
      · conv => (lhs; whnf)
      · exact ⟨hwi.1, GWI.fixed hwi.2 trivial⟩
    simp only [put_lit, put_none, List.set_cons_succ, List.set_cons_zero]
    apply ObligF.fixed
    case h =>
      intro S gh w1 hwi hSi hd hcl
      apply StepOk.intro
      intro K hK
      have cb := (hwi.1.blk HB.out (fun h => h)).k8
      go_simp
      apply hK
      · rfl
      · conv => (lhs; whnf)
      · exact ⟨hwi.1, GWI.fixed hwi.2 trivial⟩
    simp only [put_lit, put_none, List.set_cons_succ, List.set_cons_zero]
    apply ObligF.fixed
    case h =>
      intro S gh w1 hwi hSi hd hcl
      apply StepOk.intro
      intro K hK
      have cb := (hwi.1.blk HB.out (fun h => h)).k8
      go_simp
      refine (plan_Lease t s g l r k PA pn pc LA ln lc v u _ hs0 hs1 h0 h1 hu0 hu1).mono ?_
      rintro e w2 ⟨rfl, hk⟩
      apply hK
      · rfl
      · conv => (lhs; whnf)
      · exact ⟨Keep0.step hwi.1 hk, GWI.fixed (hwi.2.keep newD_stable hk) trivial⟩
    simp only [put_lit, put_none, List.set_cons_succ, List.set_cons_zero]
    apply ObligF.fixed
    case h =>
      intro S gh w1 hwi hSi hd hcl
      apply StepOk.intro
      intro K hK
      have cb := (hwi.1.blk HB.out (fun h => h)).k8
      go_simp
      apply hK
      · rfl
      · conv => (lhs; whnf)
      · exact ⟨hwi.1, GWI.fixed hwi.2 trivial⟩
    simp only [put_lit, put_none, List.set_cons_succ, List.set_cons_zero]
    apply ObligF.fixed
    case h =>
      intro S gh w1 hwi hSi hd hcl
      apply StepOk.intro
      intro K hK
      have cb := (hwi.1.blk HB.out (fun h => h)).k8
      go_simp
      apply hK
      · rfl
      · conv => (lhs; whnf)
      · exact ⟨hwi.1, GWI.fixed hwi.2 trivial⟩
    simp only [put_lit, put_none, List.set_cons_succ, List.set_cons_zero]
    apply ObligF.fixed
    case h =>
      intro S gh w1 hwi hSi hd hcl
      apply StepOk.intro
      intro K hK
      have cb := (hwi.1.blk HB.out (fun h => h)).k8
      go_simp
      apply hK
      · rfl
      · conv => (lhs; whnf)
      · exact ⟨hwi.1, GWI.fixed hwi.2 trivial⟩
    simp only [put_lit, put_none, List.set_cons_succ, List.set_cons_zero]
    apply ObligF.fixed
    case h =>
      intro S gh w1 hwi hSi hd hcl
      apply StepOk.intro
      intro K hK
      have cb := (hwi.1.blk HB.out (fun h => h)).k8
      go_simp
      apply hK
      · rfl
      · conv => (lhs; whnf)
      · exact ⟨hwi.1, GWI.fixed hwi.2 trivial⟩
    simp only [put_lit, put_none, List.set_cons_succ, List.set_cons_zero]
    apply ObligF.fixed
    case h =>
      intro S gh w1 hwi hSi hd hcl
      apply StepOk.intro
      intro K hK
      have cb := (hwi.1.blk HB.out (fun h => h)).k8
      go_simp
      apply hK
      · rfl
      · conv => (lhs; whnf)
      · exact ⟨hwi.1, GWI.fixed hwi.2 trivial⟩
    simp only [put_lit, put_none, List.set_cons_succ, List.set_cons_zero]
    apply ObligF.free
    case h =>
      intro S gh w1 hwi hSi hd hcl
      apply StepG.intro
      intro K hK
      have cb := (hwi.1.blk HB.out (fun h => h)).k8
      go_simp
      apply hK
      · rfl
      · exact ⟨hwi.1.alloc _, GWI.free (hwi.2.keep newD_stable ((Keep.refl _ _).alloc _)) ⟨_, rfl, Blk.made rfl rfl, hwi.1.size⟩⟩
    simp only [put_lit, put_none, List.set_cons_succ, List.set_cons_zero]
    apply ObligF.free
    case h =>
      intro S gh w1 hwi hSi hd hcl
      apply StepG.intro
      intro K hK
      obtain ⟨x1, e1, hb1, hx1⟩ := hwi.2 12 (hd ⟨12, .data⟩ (by simp) rfl)
      go_simp
      apply hK
      · rfl
      · exact ⟨hwi.1, GWI.free hwi.2 ⟨x1, rfl, hb1, hx1⟩⟩
    simp only [put_lit, put_none, List.set_cons_succ, List.set_cons_zero]
    exact ObligF.nil
  case h0 =>
    exact ⟨(Keep.refl _ _).drew, GWI.start _ _ _⟩
  case hend =>
    intro S gh wx hwi hall
    obtain ⟨x, e, hb, hx⟩ := hwi.2 13 (hall 13 (by decide))
    have HKX := hid hwi.1
    have HBX := hid hb
    rw [e]
    clear hwi hall hb
    go_wp2_with fail
    go_ret
    exact ⟨x, rfl, HBX.out, HK0.out.trans HKX.out (fun _ _ h => h), Nat.le_trans HK0.out.size hx⟩

theorem callF_poolStep (args : Array Value) (w : World) : (callFunc 29 args).run Try.prog w = .ok (.enter 29 args) w := by go_simp
theorem meth_poolStep (x : Nat) (w : World) : (method 234 51 (ptr x) "Step").run Try.prog w = .ok (29, ptr x) w := by kernel_rfl

section
variable {B : Nat} {w : World} {m a x : Nat} {lv : Value} {av le : Nat} {nd n lim X : Int}
def PoolSys (B m a x av le : Nat) (nd n lim X : Int) (len L0 : Nat) (lv0 : Value) (N : Nat) (k : Nat) (w : World) (t : PS) : Prop :=
  ∃ lv, MemAt B w m a lv t.W t.L ∧ (∀ k, lv.ownBlock = some k → lv0.ownBlock = some k ∨ N ≤ k) ∧ Blk w x 100 (pcs av le nd n lim t.next t) ∧ t.W.length = len ∧ t.L.length ≤ L0 + k ∧ PInv av le n lim (X + 1048576 * k) t ∧ N ≤ w.heap.size
set_option maxHeartbeats 2000000 in
theorem play_pool (t : PS) (l : List Pk) (A0 : Option Addr) (b o c most : Nat) (hm : MemAt B w m a lv t.W t.L) (hx : Blk w x 100 (pcs av le nd n lim t.next t)) (hi : PInv av le n lim X t) (hL : t.L.length ≤ 1000000) (hX : X ≤ 2199023255552)
    (hmost : most ≤ 2000) (hl : l.length ≤ 1000000) (hok : okPokes av le lim X l) (hA0 : 0 < l.length → A0 = some ⟨b, o, none⟩ ∧ b < w.heap.size ∧ b ≠ m ∧ b ≠ a ∧ b ≠ x ∧ lv.ownBlock ≠ some b)
    (hcells : ∀ i (h : i < l.length), w.cell? ⟨b, o + i * 3, none⟩ = some (i64 l[i].at_) ∧ w.cell? ⟨b, o + i * 3 + 1, none⟩ = some (i64 l[i].w) ∧ w.cell? ⟨b, o + i * 3 + 2, none⟩ = some (i64 l[i].x)) :
    Calls Try.prog 23 #[ptr m, .iface 51 (ptr x), .slice A0 l.length c, i64 most] w fun e w' =>
      e = .returned (.tuple #[i64 (playF (pStp av le n lim) pPk t.W.length l most 0 t).2.1, .bool (playF (pStp av le n lim) pPk t.W.length l most 0 t).2.2]) ∧
      (∃ k, PoolSys B m a x av le nd n lim X t.W.length t.L.length lv w.heap.size k w' (playF (pStp av le n lim) pPk t.W.length l most 0 t).1) ∧ Keep (fun k => (k = m ∨ k = a ∨ k = x ∨ lv.ownBlock = some k) ∨ w.heap.size ≤ k) w w' := by
  have hxm := hx.ne hm.mem (by decide)
  have hxa := hx.ne hm.words (by decide)
  refine mem_Play (PoolSys B m a x av le nd n lim X t.W.length t.L.length lv w.heap.size) (pStp av le n lim) pPk t.W.length 29 51 x m (fun k => k = m ∨ k = a ∨ k = x ∨ lv.ownBlock = some k) w.heap.size l A0 b o c most w t (by omega) hl (Nat.le_refl _) ?_ hcells ?_ ?_ ?_ ?_ (fun w => meth_poolStep x w) callF_poolStep ?_
  · intro h0
    obtain ⟨e, hb, hbm, hba, hbx, hbl⟩ := hA0 h0
    refine ⟨e, hb, ?_⟩
    rintro (h | h | h | h)
    · exact hbm h
    · exact hba h
    · exact hbx h
    · exact hbl h
  · rintro n w1 t1 ⟨lv1, h1, _, _, hlen, _⟩
    exact ⟨a, lv1, by rw [← hlen]; exact h1.mem⟩
  · rintro n w1 w2 t1 ⟨lv1, h1, h2, h3, h4, h5, h6, h8⟩ hk
    exact ⟨lv1, h1.same hk, h2, hk.blk h3 (fun h => h), h4, h5, h6, Nat.le_trans h8 hk.size⟩
  · rintro n w1 t1 i y ⟨p, hp, rfl, rfl⟩ ⟨lv1, h1, h2, h3, h4, h5, h6, h8⟩ hi0 hi1
    refine (mem_Poke p.w p.x h1 hi0 (by rw [h4]; exact hi1)).mono ?_
    rintro e w2 ⟨rfl, hm2, hk2⟩
    have hpp := hok p hp
    exact ⟨rfl, ⟨lv1, hm2, h2, hk2.blk h3 (fun e => hxa e), by simp [pPk, h4], h5, h6.poke _ _ ⟨fun e => by have := hpp.1 (by omega); omega, fun e => hpp.2 (by omega)⟩, Nat.le_trans h8 hk2.size⟩, hk2.mono (fun k e => Or.inl (Or.inr (Or.inl e)))⟩
  · rintro n w1 t1 hn ⟨lv1, h1, h2, h3, h4, h5, h6, h8⟩
    refine (pool_Step t1 h1 h3 h6 (by omega) (by omega)).mono ?_
    rintro e w2 ⟨rfl, lv2, hm2, hx2, hk2, hl2⟩
    refine ⟨rfl, ⟨lv2, hm2, ?_, hx2, ?_, ?_, ?_, Nat.le_trans h8 hk2.size⟩, hk2.mono ?_⟩
    · intro k hk
      rcases hl2 k hk with h | h
      · exact h2 k h
      · exact Or.inr (Nat.le_trans h8 h)
    · exact (pNext_len t1).trans h4
    · show (pNext av le _ lim t1).L.length ≤ _
      by_cases h7 : t1.next = 7
      · rw [pNext_over h7]; omega
      · rw [pNext_log t1 (by have := h6.nx; omega)]; omega
    · exact h6.step.more (by omega)
    · rintro k ((h | h | h) | h)
      · exact Or.inl (Or.inl h)
      · exact Or.inl (Or.inr (Or.inl h))
      · rcases h2 k h with h | h
        · exact Or.inl (Or.inr (Or.inr (Or.inr h)))
        · exact Or.inr h
      · exact Or.inl (Or.inr (Or.inr (Or.inl h)))
  · exact ⟨lv, hm, fun _ h => Or.inl h, hx, rfl, by omega, hi.more (by omega), Nat.le_refl _⟩
end
end Go.Proofs.Ytdjfeapncpcmgaa
