/- SnapCC: the texts SnapA, SnapB, SnapL, HeadSeven, in one. -/
import Derived.Test.YtlkniogapdhcpaaSnapBB
import Derived.Deep.RegionLaw
import Derived.Test.YtlkniogapdhcpaaLawSixB
namespace Go.Proofs.Ytlkniogapdhcpaa
open Go.RowKit
set_option linter.unusedVariables false
set_option linter.unusedSimpArgs false
set_option maxRecDepth 100000
theorem meth_nStep (x : Nat) (w : World) : (method 235 35 (ptr x) "Step").run Try.prog w = .ok (18, ptr x) w := by kernel_rfl
theorem callF_nStep (args : Array Value) (w : World) : (callFunc 18 args).run Try.prog w = .ok (.enter 18 args) w := by go_simp
section
variable {B : Nat} {w : World} {m a x : Nat} {lv : Value} {b s : Nat} {R : Nat → Prop}
set_option maxHeartbeats 1000000 in
theorem snap_Count (b s : Nat) (r : Int) (w : World) (hs : s ≤ 8) (hb : b ≤ 1000000) :
    Calls Try.prog 13 #[i64 (b : Int), i64 (s : Int), i64 r] w fun e w' => ∃ x R, e = .returned (ptr x) ∧ Keep0 w w' ∧ (∀ W L, SnR b s R w' x ⟨W, L, r, [], 0, false, false⟩) ∧ (∀ k, R k → w.heap.size ≤ k) := by
  have HT := hid (fun (w1 : World) (hx : Blk w1 w.heap.size 80 [i64 (b : Int), i64 (s : Int), i64 r, .nilFunc, .nilFunc, i64 0, i64 0, .bool false, i64 0, .bool false]) => snap_try b s w.heap.size (i64 r) .nilFunc .nilFunc (i64 0) (i64 0) (.bool false) (i64 0) (.bool false) w1 hs hb hx)
  go_enter Try.func13, Try.ntmps13
  go_wp2_with fail
  have HX := hid (show Blk (w.alloc (.cells #[i64 (b : Int), i64 (s : Int), i64 r, .nilFunc, .nilFunc, i64 0, i64 0, .bool false, i64 0, .bool false] 80)) w.heap.size 80 [i64 (b : Int), i64 (s : Int), i64 r, .nilFunc, .nilFunc, i64 0, i64 0, .bool false, i64 0, .bool false] from Blk.made rfl rfl)
  have HK := hid ((Keep.refl (fun _ => False) w).alloc (.cells #[i64 (b : Int), i64 (s : Int), i64 r, .nilFunc, .nilFunc, i64 0, i64 0, .bool false, i64 0, .bool false] 80))
  refine (HT.out _ HX.out).mono ?_
  rintro e w2 ⟨rfl, po, pg, px, go, oc, t1, t2, t3, t4, t5, t6, t7, t8⟩
  have hz := HK.out.size
  have HQ := hid (show ∀ W L, SnR b s (fun k => w.heap.size ≤ k ∧ k < w2.heap.size) w2 w.heap.size ⟨W, L, r, [], 0, false, false⟩ from fun W L => ⟨fun k h => h.2, ⟨Nat.le_refl _, t1.lt⟩, _, _, t1, fun _ => ⟨po, pg, px, go, oc, none, 0, rfl, rfl, t2, t3, t4, t5, World.ownsRow_nil _ _ _ _, t7, ⟨⟨Nat.le_trans hz t6.1, t2.lt⟩, ⟨Nat.le_trans hz t6.2.1, t5.lt⟩, ⟨Nat.le_trans hz t6.2.2.1, t4.lt⟩, ⟨Nat.le_trans hz t6.2.2.2, t3.lt⟩⟩, fun k e => by simp [Value.ownBlock] at e⟩⟩)
  have HK2 : Hid (Keep0 w w2) := hid (HK.out.trans (S := fun _ => False) t8 (fun k hk e => by have e' : k = w.heap.size := e; omega))
  clear t1 t2 t3 t4 t5 t6 t7 t8
  go_wp2_with fail
  go_ret
  exact ⟨_, _, rfl, HK2.out, HQ.out, fun k h => h.1⟩
set_option maxHeartbeats 400000 in
theorem snap_Ans (b s : Nat) (nx tk : Value) (t : SN) (hx : Blk w x 80 (ncs b s nx tk t)) :
    Calls Try.prog 16 #[ptr x] w (Ret (.agg #[i64 0, i64 t.n, .bool t.ex, i64 0]) w) := by
  have qx := (show Blk w x 80 [i64 (b : Int), i64 (s : Int), i64 t.left, nx, tk, i64 0, i64 t.n, .bool t.ex, i64 0, .bool t.fin] from hx).k10
  clear hx
  go_enter Try.func16, Try.ntmps16
  go_wp2
  exact bodyPost_ret (v := .agg #[i64 0, i64 t.n, .bool t.ex, i64 0]) (by simp [results, Try.results16, go_sem]) rfl ⟨rfl, (Keep.refl _ _).alloc _⟩
/-- a glance: its cells, and its functions' -/
structure PkR (b : Nat) (R : Nat → Prop) (w : World) (x : Nat) (t : SN) : Prop where
  lt : ∀ k, R k → k < w.heap.size
  rx : R x
  at_ : ∃ pb px, Blk w x 80 [i64 (b : Int), i64 0, i64 0, .func (.func 34) #[] #[ptr pb], .func (.func 35) #[] #[ptr px], i64 0, i64 t.n, .bool false, i64 0, .bool t.fin] ∧ Blk w pb 3 [i64 (b : Int)] ∧ Blk w px 35 [ptr x] ∧ R pb ∧ R px ∧ t.ex = false
set_option maxHeartbeats 1000000 in
theorem snap_Peek (b : Nat) (w : World) :
    Calls Try.prog 17 #[i64 (b : Int)] w fun e w' => ∃ x R, e = .returned (ptr x) ∧ Keep0 w w' ∧ (∀ W L, PkR b R w' x ⟨W, L, 0, [], 0, false, false⟩) ∧ (∀ k, R k → w.heap.size ≤ k) := by
  go_enter Try.func17, Try.ntmps17
  go_wp2_with fail
  go_ret
  exact ⟨w.heap.size + 1, fun k => w.heap.size ≤ k ∧ k < w.heap.size + 3, rfl, (((Keep.refl _ w).alloc _).alloc _).alloc _, fun W L => ⟨fun k h => by simp; omega, ⟨by omega, by omega⟩, w.heap.size, w.heap.size + 2, (Blk.made (by simp) rfl).alloc _, ((Blk.made rfl rfl).alloc _).alloc _, Blk.made (by simp) rfl, ⟨Nat.le_refl _, by omega⟩, ⟨by omega, by omega⟩, rfl⟩, fun k h => h.1⟩
set_option maxHeartbeats 400000 in
theorem peek_next (b pb : Nat) (w : World) (hb : b ≤ 1000000) (h : Blk w pb 3 [i64 (b : Int)]) : Calls Try.prog 34 #[ptr pb] w fun e w' => e = .returned (i64 (b : Int)) ∧ w = w' := by
  have q := h.k1
  have y : IntKind.i64.wrap ((b : Int) + 0) = (b : Int) := by rw [Int.add_zero]; exact IntWalk.i64_in _ (by omega)
  have y2 : IntKind.i64.wrap (b : Int) = (b : Int) := IntWalk.i64_in _ (by omega)
  clear h
  go_enter Try.func34, Try.ntmps34
  go_wp2_with fail
  go_ret
  exact ⟨rfl, rfl⟩
set_option maxHeartbeats 1000000 in
theorem peek_take (px : Nat) (n : Int) (c1 c2 c3 c4 c5 c6 c7 c8 c9 c10 : Value) (w : World) (h : Blk w px 35 [ptr x]) (hx : Blk w x 80 [c1, c2, c3, c4, c5, c6, c7, c8, c9, c10]) :
    Calls Try.prog 35 #[i64 n, ptr px] w fun e w' => e = .returned (.tuple #[]) ∧ Blk w' x 80 [c1, c2, c3, c4, c5, i64 0, i64 n, .bool false, i64 0, .bool true] ∧ Keep (fun k => k = x) w w' := by
  have q := h.k1
  have HX := hid hx
  have qx := hx.k10
  clear h hx
  go_enter Try.func35, Try.ntmps35
  go_region
  go_end0
  have hb := (((((HX.out.set 5 (i64 0)).set 6 (i64 n)).set 7 (.bool false)).set 8 (i64 0)).set 9 (.bool true)).drew
  simp only [List.set_cons_succ, List.set_cons_zero] at hb
  exact ⟨rfl, hb, by refine Keep.drew ?_; repeat (with_reducible first | exact Keep.refl _ _ | refine Keep.set ?_ _ _ (fun _ => rfl))⟩
/-- what a glance's step leaves -/
def PkQ (B : Nat) (w : World) (m a : Nat) (lv : Value) (x b : Nat) (R : Nat → Prop) (t : SN) (w' : World) : Prop :=
  ∃ lv' R', MemAt B w' m a lv' t.W t.L ∧ PkR b R' w' x t ∧ Keep (fun k => MF m a lv k ∨ R k) w w' ∧ (∀ k, lv'.ownBlock = some k → lv.ownBlock = some k ∨ w.heap.size ≤ k) ∧ (∀ k, R' k → R k ∨ w.heap.size ≤ k) ∧ (∀ k, R' k → ¬ MF m a lv' k)
theorem PkR.keep {S : Nat → Prop} {w' : World} {t : SN} (h : PkR b R w x t) (hk : Keep S w w') (hS : ∀ k, R k → ¬ S k) : PkR b R w' x t := by
  obtain ⟨pb, px, h1, h2, h3, h4, h5, h6⟩ := h.at_
  exact ⟨fun k hr => Nat.lt_of_lt_of_le (h.lt k hr) hk.size, h.rx, pb, px, hk.blk h1 (hS _ h.rx), hk.blk h2 (hS _ h4), hk.blk h3 (hS _ h5), h4, h5, h6⟩
theorem pk_Step (t : SN) (hm : MemAt B w m a lv t.W t.L) (hx : PkR b R w x t) (hR : ∀ k, R k → ¬ MF m a lv k) (hv : b < t.W.length) (hb : b ≤ 1000000) (hL : t.L.length ≤ 1000000000) :
    Calls Try.prog 18 #[ptr x, ptr m] w fun e w' => e = .returned (.bool (gStp b t).2) ∧ PkQ B w m a lv x b R (gStp b t).1 w' := by
  show Calls _ _ _ _ (fun e w' => e = .returned (.bool (gNext b t).fin) ∧ PkQ B w m a lv x b R (gNext b t) w')
  obtain ⟨pb, px, h1, h2, h3, h4, h5, h6⟩ := hx.at_
  cases hf : t.fin with
  | true =>
    have h1' := h1
    rw [hf] at h1'
    rw [gNext_over hf, hf]
    refine (snap_Step_end h1').mono ?_
    rintro e w' ⟨rfl, rfl⟩
    exact ⟨rfl, lv, R, hm, hx, Keep.refl _ _, fun _ h => Or.inl h, fun _ h => Or.inl h, hR⟩
  | false =>
    rw [hf] at h1
    have hxf := hR x hx.rx
    have e0 : gNext b t = { t with L := t.L ++ [⟨1, (b : Nat), rd t.W b, 0, false⟩], n := rd t.W b, fin := true } := by unfold gNext; rw [if_neg (by rw [hf]; decide)]
    rw [e0]
    refine (snap_Step_peek (T := fun w1 w2 => Blk w2 x 80 [i64 (b : Int), i64 0, i64 0, .func (.func 34) #[] #[ptr pb], .func (.func 35) #[] #[ptr px], i64 0, i64 (rd t.W b), .bool false, i64 0, .bool true] ∧ Keep (fun k => k = x) w1 w2) true hm h1 hxf hv hL (fun w1 hk => peek_next b pb w1 hb (hk.blk h2 (fun h => h))) (fun w1 hk => peek_take px (rd t.W b) _ _ _ _ _ _ _ _ _ _ w1 (hk.blk h3 (hR _ h5)) (hk.blk h1 hxf)) (fun w1 w2 _ ht => ht.1.cell 9)).mono ?_
    rintro e w' ⟨rfl, lv1, w1, hm1, hk1, ho1, t1, t2⟩
    have hxb : pb ≠ x := h2.ne h1 (by decide)
    have hxp : px ≠ x := h3.ne h1 (by decide)
    have hRm1 : ∀ k, R k → ¬ MF m a lv1 k := by
      intro k hr
      rintro (h | h | h)
      · exact hR k hr (Or.inl h)
      · exact hR k hr (Or.inr (Or.inl h))
      · rcases ho1 k h with h2 | h2
        · exact hR k hr (Or.inr (Or.inr h2))
        · have := hx.lt k hr; omega
    have hz1 := hk1.size
    have hz2 := t2.size
    refine ⟨rfl, lv1, R, hm1.keep t2 (fun k hkk e => hRm1 x hx.rx (by have e' : k = x := e; exact e' ▸ hkk)), ⟨fun k hr => by have := hx.lt k hr; omega, hx.rx, pb, px, t1, t2.blk (hk1.blk h2 (hR _ h4)) hxb, t2.blk (hk1.blk h3 (hR _ h5)) hxp, h4, h5, h6⟩, (hk1.mono (fun _ h => Or.inl h)).trans t2 (fun k _ e => Or.inr (by have e' : k = x := e; exact e' ▸ hx.rx)), ho1, fun _ h => Or.inl h, hRm1⟩
theorem peek_Ans (t : SN) (hx : PkR b R w x t) : Calls Try.prog 16 #[ptr x] w (Ret (.agg #[i64 0, i64 t.n, .bool t.ex, i64 0]) w) := by
  obtain ⟨pb, px, h1, _, _, _, _, h6⟩ := hx.at_
  have h : Blk w x 80 (ncs b 0 (.func (.func 34) #[] #[ptr pb]) (.func (.func 35) #[] #[ptr px]) { t with left := 0 }) := by unfold ncs; rw [h6]; exact h1
  exact snap_Ans b 0 _ _ { t with left := 0 } h
theorem count_Ans (t : SN) (hx : SnR b s R w x t) : Calls Try.prog 16 #[ptr x] w (Ret (.agg #[i64 0, i64 t.n, .bool t.ex, i64 0]) w) := by
  obtain ⟨nx, tk, h, _⟩ := hx.at_
  exact snap_Ans b s nx tk t h
end
/-- a machine of either kind, its Mem, between steps -/
def NSys (At : (Nat → Prop) → World → SN → Prop) (Inv : SN → Prop) (B m a len L0 : Nat) (R0 : Nat → Prop) (lv0 : Value) (N : Nat) (k : Nat) (w : World) (t : SN) : Prop :=
  ∃ lv R, MemAt B w m a lv t.W t.L ∧ (∀ k, lv.ownBlock = some k → lv0.ownBlock = some k ∨ N ≤ k) ∧ At R w t ∧ t.W.length = len ∧ t.L.length ≤ L0 + k ∧ Inv t ∧ N ≤ w.heap.size ∧ (∀ k, R k → R0 k ∨ N ≤ k) ∧ (∀ k, R k → ¬ MF m a lv k)
set_option maxHeartbeats 2000000 in
theorem play_sn (At : (Nat → Prop) → World → SN → Prop) (Inv : SN → Prop) (stp : SN → SN × Bool) {B : Nat} {w : World} {m a x : Nat} {lv : Value} {R : Nat → Prop}
    (hkeep : ∀ (S R : Nat → Prop) w w' t, At R w t → Keep S w w' → (∀ k, R k → ¬ S k) → At R w' t) (hpk : ∀ R w t i y, At R w t → At R w (nPk t i y)) (hipk : ∀ t i y, Inv t → Inv (nPk t i y)) (hist : ∀ t, Inv t → Inv (stp t).1) (hW : ∀ t, (stp t).1.W.length = t.W.length) (hLL : ∀ t, (stp t).1.L.length ≤ t.L.length + 1)
    (hstep : ∀ R w lv t, MemAt B w m a lv t.W t.L → At R w t → (∀ k, R k → ¬ MF m a lv k) → Inv t → t.L.length ≤ 1000000000 → Calls Try.prog 18 #[ptr x, ptr m] w fun e w' => e = .returned (.bool (stp t).2) ∧ ∃ lv' R', MemAt B w' m a lv' (stp t).1.W (stp t).1.L ∧ At R' w' (stp t).1 ∧ Keep (fun k => MF m a lv k ∨ R k) w w' ∧ (∀ k, lv'.ownBlock = some k → lv.ownBlock = some k ∨ w.heap.size ≤ k) ∧ (∀ k, R' k → R k ∨ w.heap.size ≤ k) ∧ (∀ k, R' k → ¬ MF m a lv' k))
    (t : SN) (l : List Pk) (A0 : Option Addr) (kb ko kc most : Nat) (hm : MemAt B w m a lv t.W t.L) (hx : At R w t) (hR : ∀ k, R k → ¬ MF m a lv k) (hi : Inv t) (hL : t.L.length ≤ 1000000)
    (hmost : most ≤ 2000) (hl : l.length ≤ 1000000) (hA0 : 0 < l.length → A0 = some ⟨kb, ko, none⟩ ∧ kb < w.heap.size ∧ kb ≠ m ∧ kb ≠ a ∧ ¬ R kb ∧ lv.ownBlock ≠ some kb)
    (hcells : ∀ i (h : i < l.length), w.cell? ⟨kb, ko + i * 3, none⟩ = some (i64 l[i].at_) ∧ w.cell? ⟨kb, ko + i * 3 + 1, none⟩ = some (i64 l[i].w) ∧ w.cell? ⟨kb, ko + i * 3 + 2, none⟩ = some (i64 l[i].x)) :
    Calls Try.prog 14 #[ptr m, .iface 35 (ptr x), .slice A0 l.length kc, i64 most] w fun e w' =>
      e = .returned (.tuple #[i64 (playF stp nPk t.W.length l most 0 t).2.1, .bool (playF stp nPk t.W.length l most 0 t).2.2]) ∧
      (∃ k, NSys At Inv B m a t.W.length t.L.length R lv w.heap.size k w' (playF stp nPk t.W.length l most 0 t).1) ∧ Keep (fun k => (k = m ∨ k = a ∨ R k ∨ lv.ownBlock = some k) ∨ w.heap.size ≤ k) w w' := by
  refine mem_Play (NSys At Inv B m a t.W.length t.L.length R lv w.heap.size) stp nPk t.W.length 18 35 x m (fun k => k = m ∨ k = a ∨ R k ∨ lv.ownBlock = some k) w.heap.size l A0 kb ko kc most w t (by omega) hl (Nat.le_refl _) ?_ hcells ?_ ?_ ?_ ?_ (fun w => meth_nStep x w) callF_nStep ?_
  · intro h0
    obtain ⟨e, hb, hbm, hba, hbx, hbl⟩ := hA0 h0
    refine ⟨e, hb, ?_⟩
    rintro (h | h | h | h)
    · exact hbm h
    · exact hba h
    · exact hbx h
    · exact hbl h
  · rintro n w1 t1 ⟨lv1, R1, h1, _, _, hlen, _⟩
    exact ⟨a, lv1, by rw [← hlen]; exact h1.mem⟩
  · rintro n w1 w2 t1 ⟨lv1, R1, h1, h2, h3, h4, h5, h6, h8, h9, h10⟩ hk
    exact ⟨lv1, R1, h1.same hk, h2, hkeep _ _ _ _ _ h3 hk (fun _ _ h => h), h4, h5, h6, Nat.le_trans h8 hk.size, h9, h10⟩
  · rintro n w1 t1 i y ⟨p, hp, rfl, rfl⟩ ⟨lv1, R1, h1, h2, h3, h4, h5, h6, h8, h9, h10⟩ hi0 hi1
    refine (mem_Poke p.w p.x h1 hi0 (by rw [h4]; exact hi1)).mono ?_
    rintro e w2 ⟨rfl, hm2, hk2⟩
    exact ⟨rfl, ⟨lv1, R1, hm2, h2, hpk _ _ _ _ _ (hkeep _ _ _ _ _ h3 hk2 (fun k hr e => h10 k hr (Or.inr (Or.inl e)))), by simp [nPk, h4], h5, hipk _ _ _ h6, Nat.le_trans h8 hk2.size, h9, h10⟩, hk2.mono (fun k e => Or.inl (Or.inr (Or.inl e)))⟩
  · rintro n w1 t1 hn ⟨lv1, R1, h1, h2, h3, h4, h5, h6, h8, h9, h10⟩
    refine (hstep R1 w1 lv1 t1 h1 h3 h10 h6 (by omega)).mono ?_
    rintro e w2 ⟨rfl, lv2, R2, hm2, hx2, hk2, hl2, hr2, hr3⟩
    have hll := hLL t1
    refine ⟨rfl, ⟨lv2, R2, hm2, ?_, hx2, (hW t1).trans h4, by omega, hist _ h6, Nat.le_trans h8 hk2.size, ?_, hr3⟩, hk2.mono ?_⟩
    · intro k hk
      rcases hl2 k hk with h | h
      · exact h2 k h
      · exact Or.inr (Nat.le_trans h8 h)
    · intro k hk
      rcases hr2 k hk with h | h
      · exact h9 k h
      · exact Or.inr (Nat.le_trans h8 h)
    · rintro k ((h | h | h) | h)
      · exact Or.inl (Or.inl h)
      · exact Or.inl (Or.inr (Or.inl h))
      · rcases h2 k h with h | h
        · exact Or.inl (Or.inr (Or.inr (Or.inr h)))
        · exact Or.inr h
      · rcases h9 k h with h | h
        · exact Or.inl (Or.inr (Or.inr (Or.inl h)))
        · exact Or.inr h
  · exact ⟨lv, R, hm, fun _ h => Or.inl h, hx, rfl, by omega, hi, Nat.le_refl _, fun _ h => Or.inl h, hR⟩
theorem SnR.poke {b s : Nat} {R : Nat → Prop} {w : World} {x : Nat} {t : SN} (h : SnR b s R w x t) (i : Nat) (y : Int) : SnR b s R w x (nPk t i y) := ⟨h.lt, h.rx, h.at_⟩
theorem PkR.poke {b : Nat} {R : Nat → Prop} {w : World} {x : Nat} {t : SN} (h : PkR b R w x t) (i : Nat) (y : Int) : PkR b R w x (nPk t i y) := ⟨h.lt, h.rx, h.at_⟩
theorem nNext_logle (b s : Nat) (t : SN) : (nNext b s t).L.length ≤ t.L.length + 1 := by
  cases hf : t.fin with
  | true => rw [nNext_over hf]; omega
  | false => rw [nNext_L hf]; simp
theorem gNext_logle (b : Nat) (t : SN) : (gNext b t).L.length ≤ t.L.length + 1 := by
  unfold gNext
  split
  · omega
  · simp
theorem gNext_W (b : Nat) (t : SN) : (gNext b t).W = t.W := by
  unfold gNext
  split <;> rfl
end Go.Proofs.Ytlkniogapdhcpaa


namespace Go.Proofs.Ytlkniogapdhcpaa
open Go.RowKit
set_option linter.unusedVariables false
set_option linter.unusedSimpArgs false
set_option maxRecDepth 100000
/-- what holds of a glance -/
def GInv (b : Nat) (t : SN) : Prop := b < t.W.length ∧ (t.fin = false → t.n = 0 ∧ t.ex = false)
theorem GInv.step {b : Nat} {t : SN} (h : GInv b t) : GInv b (gNext b t) := by
  refine ⟨by rw [gNext_W]; exact h.1, fun e => ?_⟩
  by_cases hf : t.fin = true
  · rw [gNext_over hf] at e ⊢; exact h.2 e
  · have e1 : (gNext b t).fin = true := by unfold gNext; rw [if_neg hf]
    rw [e1] at e
    cases e
section
variable {B : Nat} {w : World} {m a x b s : Nat} {lv : Value} {R : Nat → Prop}
theorem play_count (t : SN) (l : List Pk) (A0 : Option Addr) (kb ko kc most : Nat) (hb : b ≤ 1000000) (hm : MemAt B w m a lv t.W t.L) (hx : SnR b s R w x t) (hR : ∀ k, R k → ¬ MF m a lv k) (hi : NInv b s t) (hL : t.L.length ≤ 1000000)
    (hmost : most ≤ 2000) (hl : l.length ≤ 1000000) (hA0 : 0 < l.length → A0 = some ⟨kb, ko, none⟩ ∧ kb < w.heap.size ∧ kb ≠ m ∧ kb ≠ a ∧ ¬ R kb ∧ lv.ownBlock ≠ some kb)
    (hcells : ∀ i (h : i < l.length), w.cell? ⟨kb, ko + i * 3, none⟩ = some (i64 l[i].at_) ∧ w.cell? ⟨kb, ko + i * 3 + 1, none⟩ = some (i64 l[i].w) ∧ w.cell? ⟨kb, ko + i * 3 + 2, none⟩ = some (i64 l[i].x)) :
    Calls Try.prog 14 #[ptr m, .iface 35 (ptr x), .slice A0 l.length kc, i64 most] w fun e w' =>
      e = .returned (.tuple #[i64 (playF (nStp b s) nPk t.W.length l most 0 t).2.1, .bool (playF (nStp b s) nPk t.W.length l most 0 t).2.2]) ∧
      (∃ k, NSys (fun R w t => SnR b s R w x t) (NInv b s) B m a t.W.length t.L.length R lv w.heap.size k w' (playF (nStp b s) nPk t.W.length l most 0 t).1) ∧ Keep (fun k => (k = m ∨ k = a ∨ R k ∨ lv.ownBlock = some k) ∨ w.heap.size ≤ k) w w' :=
  play_sn (fun R w t => SnR b s R w x t) (NInv b s) (nStp b s) (fun S R w w' t h hk hS => h.keep hk hS) (fun R w t i y h => h.poke i y) (fun t i y h => h.poke i y) (fun t h => h.step) (fun t => by show (nNext b s t).W.length = _; rw [nNext_W]) (nNext_logle b s)
    (fun R w lv t hm hx hR hi hL => sn_Step t hm hx hR hi hb hL) t l A0 kb ko kc most hm hx hR hi hL hmost hl hA0 hcells
theorem play_peek (t : SN) (l : List Pk) (A0 : Option Addr) (kb ko kc most : Nat) (hb : b ≤ 1000000) (hm : MemAt B w m a lv t.W t.L) (hx : PkR b R w x t) (hR : ∀ k, R k → ¬ MF m a lv k) (hi : GInv b t) (hL : t.L.length ≤ 1000000)
    (hmost : most ≤ 2000) (hl : l.length ≤ 1000000) (hA0 : 0 < l.length → A0 = some ⟨kb, ko, none⟩ ∧ kb < w.heap.size ∧ kb ≠ m ∧ kb ≠ a ∧ ¬ R kb ∧ lv.ownBlock ≠ some kb)
    (hcells : ∀ i (h : i < l.length), w.cell? ⟨kb, ko + i * 3, none⟩ = some (i64 l[i].at_) ∧ w.cell? ⟨kb, ko + i * 3 + 1, none⟩ = some (i64 l[i].w) ∧ w.cell? ⟨kb, ko + i * 3 + 2, none⟩ = some (i64 l[i].x)) :
    Calls Try.prog 14 #[ptr m, .iface 35 (ptr x), .slice A0 l.length kc, i64 most] w fun e w' =>
      e = .returned (.tuple #[i64 (playF (gStp b) nPk t.W.length l most 0 t).2.1, .bool (playF (gStp b) nPk t.W.length l most 0 t).2.2]) ∧
      (∃ k, NSys (fun R w t => PkR b R w x t) (GInv b) B m a t.W.length t.L.length R lv w.heap.size k w' (playF (gStp b) nPk t.W.length l most 0 t).1) ∧ Keep (fun k => (k = m ∨ k = a ∨ R k ∨ lv.ownBlock = some k) ∨ w.heap.size ≤ k) w w' :=
  play_sn (fun R w t => PkR b R w x t) (GInv b) (gStp b) (fun S R w w' t h hk hS => h.keep hk hS) (fun R w t i y h => h.poke i y) (fun t i y h => ⟨by simpa [nPk] using h.1, h.2⟩) (fun t h => h.step) (fun t => by show (gNext b t).W.length = _; rw [gNext_W]) (gNext_logle b)
    (fun R w lv t hm hx hR hi hL => pk_Step t hm hx hR hi.1 hb hL) t l A0 kb ko kc most hm hx hR hi hL hmost hl hA0 hcells
theorem new_mf {W : List Int} {L : List Acc} (hm : MemAt B w m a lv W L) (hR : ∀ k, R k → w.heap.size ≤ k) : ∀ k, R k → ¬ MF m a lv k := fun k hr h => by have := mf_lt hm h; have := hR k hr; omega
/-- what a play keeps -/
theorem nplay_no {W : List Int} {L : List Acc} (hm : MemAt B w m a lv W L) {k : Nat} (h1 : ¬ MF m a lv k) (h2 : ¬ R k) (h3 : k < w.heap.size) : ¬ ((k = m ∨ k = a ∨ R k ∨ lv.ownBlock = some k) ∨ w.heap.size ≤ k) := by
  rintro ((h | h | h | h) | h)
  · exact h1 (Or.inl h)
  · exact h1 (Or.inr (Or.inl h))
  · exact h2 h
  · exact h1 (Or.inr (Or.inr h))
  · omega
theorem nplay_far {w0 w' : World} {N : Nat} {W : List Int} {L : List Acc} (hm : MemAt N w m a lv W L) (hR : ∀ k, R k → N ≤ k) (hk : Keep (fun k => (k = m ∨ k = a ∨ R k ∨ lv.ownBlock = some k) ∨ w.heap.size ≤ k) w w') (h0 : Keep0 w0 w) (hN : N = w0.heap.size) : Keep0 w0 w' := by
  subst hN
  have hz := h0.size
  refine h0.trans (S := fun _ => False) hk (fun k hkk hs => ?_)
  rcases hs with (rfl | rfl | h | h) | h
  · have := hm.bm; omega
  · have := hm.ba; omega
  · have := hR k h; omega
  · have := (hm.log.lt k h).1; omega
  · omega
theorem ints_no7 {W : List Int} {L : List Acc} {g : Nat} {T : List Int} (hm : MemAt B w m a lv W L) (hi : Ints w g T) (hga : g ≠ a) : ¬ MF m a lv g := by
  obtain ⟨cur, hg, _, _⟩ := hi
  have hb : Blk w g 3 cur.toList := by unfold Blk; simpa using hg
  rintro (h | h | h)
  · exact hb.ne hm.mem (by decide) h
  · exact hga h
  · exact ownBlock_ne hm.log hb (by decide) h.symm
theorem blk_no7 {W : List Int} {L : List Acc} {g : Nat} {T : TypeId} {cs : List Value} (hm : MemAt B w m a lv W L) (hb : Blk w g T cs) (h1 : T ≠ 84) (h2 : T ≠ 3) (h3 : T ≠ 42) : ¬ MF m a lv g := by
  rintro (h | h | h)
  · exact hb.ne hm.mem h1 h
  · exact hb.ne hm.words h2 h
  · exact ownBlock_ne hm.log hb h3 h.symm
theorem play_mf7 {lv' : Value} {W : List Int} {L : List Acc} {Ry : Nat → Prop} (hm : MemAt B w m a lv W L) (ho : ∀ k, lv'.ownBlock = some k → lv.ownBlock = some k ∨ w.heap.size ≤ k) (hR : ∀ k, Ry k → ¬ MF m a lv k) (hl : ∀ k, Ry k → k < w.heap.size) : ∀ k, Ry k → ¬ MF m a lv' k := by
  intro k hr
  rintro (h | h | h)
  · exact hR k hr (Or.inl h)
  · exact hR k hr (Or.inr (Or.inl h))
  · rcases ho k h with h2 | h2
    · exact hR k hr (Or.inr (Or.inr h2))
    · have := hl k hr; omega
end
theorem sn_over {B : Nat} {w : World} {m x b s : Nat} {R : Nat → Prop} {t : SN} (h : SnR b s R w x t) (hf : t.fin = true) : Calls Try.prog 18 #[ptr x, ptr m] w fun e w' => e = .returned (.bool true) ∧ w = w' := by
  obtain ⟨nx, tk, hb, _⟩ := h.at_
  unfold ncs at hb
  rw [hf] at hb
  exact snap_Step_end hb
theorem pk_over {B : Nat} {w : World} {m x b : Nat} {R : Nat → Prop} {t : SN} (h : PkR b R w x t) (hf : t.fin = true) : Calls Try.prog 18 #[ptr x, ptr m] w fun e w' => e = .returned (.bool true) ∧ w = w' := by
  obtain ⟨pb, px, hb, _⟩ := h.at_
  rw [hf] at hb
  exact snap_Step_end hb
/-- what a play does -/
theorem playN_one (stp : SN → SN × Bool) (len : Nat) (l : List Pk) (k n : Nat) (t : SN) :
    playF stp nPk len l (k + 1) n t = if (stp (pokeAll nPk len n l t)).2 then ((stp (pokeAll nPk len n l t)).1, n + 1, true) else playF stp nPk len l k (n + 1) (stp (pokeAll nPk len n l t)).1 := rfl
theorem nPoke_any (len : Nat) (n : Int) : ∀ (l : List Pk) (t : SN), ∃ W', pokeAll nPk len n l t = { t with W := W' } ∧ W'.length = t.W.length := by
  intro l
  induction l with
  | nil => intro t; exact ⟨t.W, rfl, rfl⟩
  | cons p l ih =>
    intro t
    by_cases h : p.at_ = n ∧ 0 ≤ p.w ∧ p.w < (len : Int)
    · obtain ⟨W', e, hl⟩ := ih (nPk t p.w.toNat p.x)
      refine ⟨W', ?_, by rw [hl]; simp [nPk]⟩
      show pokeAll nPk len n l (if p.at_ = n ∧ 0 ≤ p.w ∧ p.w < (len : Int) then nPk t p.w.toNat p.x else t) = _
      rw [if_pos h, e]
      rfl
    · obtain ⟨W', e, hl⟩ := ih t
      refine ⟨W', ?_, hl⟩
      show pokeAll nPk len n l (if p.at_ = n ∧ 0 ≤ p.w ∧ p.w < (len : Int) then nPk t p.w.toNat p.x else t) = _
      rw [if_neg h, e]
structure NPlay (m k : Nat) (t : SN) (r : SN × Nat × Bool) : Prop where
  log : r.1.L.length + m = t.L.length + r.2.1
  told : r.2.2 = true → r.1.fin = true
  not : r.2.2 = false → r.1.fin = false ∧ r.2.1 = m + k
  le : r.2.1 ≤ m + k
theorem nPlay (stp : SN → SN × Bool) (h2 : ∀ t, (stp t).2 = (stp t).1.fin) (hL : ∀ t, t.fin = false → (stp t).1.L.length = t.L.length + 1) (len : Nat) (l : List Pk) : ∀ (k m : Nat) (t : SN), t.fin = false → NPlay m k t (playF stp nPk len l k m t) := by
  intro k
  induction k with
  | zero => intro m t h; exact ⟨rfl, fun h => by simp [playF] at h, fun _ => ⟨h, rfl⟩, Nat.le_refl _⟩
  | succ k ih =>
    intro m t h
    obtain ⟨W', e, _⟩ := nPoke_any len m l t
    rw [playN_one, e]
    have hl := hL { t with W := W' } h
    have hl' : (stp { t with W := W' }).1.L.length = t.L.length + 1 := hl
    cases hq : (stp { t with W := W' }).2 with
    | true =>
      rw [if_pos rfl]
      exact ⟨by show (stp { t with W := W' }).1.L.length + m = t.L.length + (m + 1); omega, fun _ => by show (stp { t with W := W' }).1.fin = true; rw [← h2]; exact hq, (fun h => by cases h), by show m + 1 ≤ m + (k + 1); omega⟩
    | false =>
      rw [if_neg (by decide)]
      have := ih (m + 1) (stp { t with W := W' }).1 (by rw [← h2]; exact hq)
      refine ⟨by have := this.log; omega, this.told, fun e => ?_, by have := this.le; omega⟩
      obtain ⟨a1, a2⟩ := this.not e
      exact ⟨a1, by omega⟩
theorem nPlay_count (b s len : Nat) (l : List Pk) (k m : Nat) (t : SN) (h : t.fin = false) : NPlay m k t (playF (nStp b s) nPk len l k m t) :=
  nPlay (nStp b s) (fun _ => rfl) (fun t h => by show (nNext b s t).L.length = _; rw [nNext_L h]; simp) len l k m t h
theorem nPlay_peek (b len : Nat) (l : List Pk) (k m : Nat) (t : SN) (h : t.fin = false) : NPlay m k t (playF (gStp b) nPk len l k m t) :=
  nPlay (gStp b) (fun _ => rfl) (fun t h => by show (gNext b t).L.length = _; unfold gNext; rw [if_neg (by rw [h]; decide)]; simp) len l k m t h
theorem SnR.alloc {b s : Nat} {R : Nat → Prop} {w : World} {x : Nat} {t : SN} (h : SnR b s R w x t) (o : Obj) : SnR b s R (w.alloc o) x t := h.keep ((Keep.refl (fun _ => False) w).alloc o) (fun _ _ h => h)
theorem SnR.drew {b s : Nat} {R : Nat → Prop} {w : World} {x : Nat} {t : SN} (h : SnR b s R w x t) : SnR b s R w.drew x t := h.keep ((Keep.refl (fun _ => False) w).drew) (fun _ _ h => h)
theorem PkR.alloc {b : Nat} {R : Nat → Prop} {w : World} {x : Nat} {t : SN} (h : PkR b R w x t) (o : Obj) : PkR b R (w.alloc o) x t := h.keep ((Keep.refl (fun _ => False) w).alloc o) (fun _ _ h => h)
theorem PkR.drew {b : Nat} {R : Nat → Prop} {w : World} {x : Nat} {t : SN} (h : PkR b R w x t) : PkR b R w.drew x t := h.keep ((Keep.refl (fun _ => False) w).drew) (fun _ _ h => h)
end Go.Proofs.Ytlkniogapdhcpaa


namespace Go.Proofs.Ytlkniogapdhcpaa
open Go.RowKit
set_option linter.unusedVariables false
set_option linter.unusedSimpArgs false
set_option maxRecDepth 100000
theorem take_pad7 (W : List Int) (n i : Nat) (hn : n = W.length) (h : i < n) : (W.take i ++ List.replicate (n - i) 0).set i (rd W i) = W.take (i + 1) ++ List.replicate (n - (i + 1)) 0 := by
  subst hn
  have e : W[i]? = some (rd W i) := by simp [rd, h]
  rw [List.set_append_right _ _ (by rw [List.length_take]; omega), List.length_take, Nat.min_eq_left (by omega), Nat.sub_self, List.take_add_one, e, show W.length - i = (W.length - (i + 1)) + 1 from by omega, List.replicate_succ]
  simp
set_option maxHeartbeats 2000000 in
theorem law7_laid (B : Nat) (w : World) (gb c n : Nat) (W : List Int) (hW : Ints w gb W) (hn : n = W.length) (h1 : W.length ≤ 10000) (hB : B ≤ w.heap.size) :
    Calls Try.prog 11 #[.slice (some ⟨gb, 0, none⟩) n c] w fun e w' => ∃ m a lv, e = .returned (ptr m) ∧ MemAt B w' m a lv W [] ∧ Keep0 w w' ∧ w.heap.size ≤ m ∧ w.heap.size ≤ a := by
  subst hn
  have HW := hid hW
  clear hW
  go_enter Try.func11, Try.ntmps11
  go_wp2_with fail
  refine (mem_New B W.length _ hB (by omega) (by omega)).mono ?_
  rintro e w1 ⟨m, a, lv, rfl, hm, hk, hzm, hza⟩
  rw [Int.toNat_natCast] at hm
  have HM1 := hid hm
  have HK1 : Hid (Keep0 w w1) := hid hk
  clear hm hk
  go_wp2_with fail
  go_loopw [4] (fun v wr => ∃ i : Nat, i ≤ W.length ∧ v = .int .i64 i ∧ MemAt B wr m a lv (W.take i ++ List.replicate (W.length - i) 0) [] ∧ Keep0 w wr) (fun v _ => W.length - (intOf v).toNat)
  case atStart => exact ⟨0, Nat.zero_le _, rfl, by simpa using HM1.out, HK1.out⟩
  case round =>
    obtain ⟨i, hi, rfl, hm, hk⟩ := hrel
    clear HM1 HK1
    have HM := hid hm
    have HK := hid hk
    clear hm hk
    by_cases hlt : i < W.length
    · have hir := HK.out.ints HW.out (fun h => h)
      have c1 := hir.cell i hlt
      have z1 := hir.lt
      have hx := take_pad7 W W.length i rfl hlt
      have HX := hid hx
      clear hx hir
      go_wp2_with fail
      refine (mem_Poke i (rd W i) HM.out (by omega) (by simp; omega)).mono ?_
      rintro e w2 ⟨rfl, hm, hk⟩
      rw [Int.toNat_natCast, HX.out] at hm
      have HM2 := hid hm
      have HK2 : Hid (Keep0 w w2) := hid (keep_far6 HK.out hk (fun k e => by have e' : k = a := e; omega))
      clear hm hk c1
      go_wp2_with fail
      go_roundw
      case rel => exact ⟨i + 1, by omega, by go_num, HM2.out, HK2.out⟩
      case measure => simp [intOf]; omega
    · obtain rfl : i = W.length := by omega
      have hm := HM.out
      rw [List.take_of_length_le (Nat.le_refl _), Nat.sub_self] at hm
      simp only [List.replicate_zero, List.append_nil] at hm
      have HM2 := hid hm
      clear hm
      go_wp2_with fail
      go_ret
      exact ⟨m, a, lv, rfl, HM2.out, HK.out, hzm, hza⟩
theorem head7_a (L : List Acc) : playF (nStp 0 2) nPk 6 [] 50 0 (⟨[5, 1, 1, 2, 3, 4294967300], L, 2, [], 0, false, false⟩ : SN) = (⟨[5, 1, 1, 2, 3, 4294967300], ((((((((L ++ [⟨1, (1 : Nat), 1, 0, false⟩]) ++ [⟨1, (2 : Nat), 1, 0, false⟩]) ++ [⟨1, (0 : Nat), 5, 0, false⟩]) ++ [⟨1, (4 : Nat), 3, 0, false⟩]) ++ [⟨1, (5 : Nat), 4294967300, 0, false⟩]) ++ [⟨1, (1 : Nat), 1, 0, false⟩]) ++ [⟨1, (4 : Nat), 3, 0, false⟩]) ++ [⟨1, (5 : Nat), 4294967300, 0, false⟩]), 1, [1, 1, 5, 3, 4294967300, 1, 3, 4294967300], 12, true, true⟩, 8, true) := by kernel_rfl
theorem head7_b (L : List Acc) : playF (gStp 0) nPk 6 [] 50 0 (⟨[5, 1, 1, 2, 3, 4294967300], L, 0, [], 0, false, false⟩ : SN) = (⟨[5, 1, 1, 2, 3, 4294967300], L ++ [⟨1, (0 : Nat), 5, 0, false⟩], 0, [], 5, false, true⟩, 1, true) := by kernel_rfl
theorem head7_c (L : List Acc) : playF (nStp 0 2) nPk 6 ([⟨5, 4, 4294967296⟩, ⟨13, 0, 9⟩, ⟨13, 1, 2⟩] : List Pk) 50 0 (⟨[5, 1, 1, 2, 3, 4294967300], L, 2, [], 0, false, false⟩ : SN) = (⟨[9, 2, 1, 2, 4294967296, 4294967300], ((((((((((((((((L ++ [⟨1, (1 : Nat), 1, 0, false⟩]) ++ [⟨1, (2 : Nat), 1, 0, false⟩]) ++ [⟨1, (0 : Nat), 5, 0, false⟩]) ++ [⟨1, (4 : Nat), 3, 0, false⟩]) ++ [⟨1, (5 : Nat), 4294967300, 0, false⟩]) ++ [⟨1, (1 : Nat), 1, 0, false⟩]) ++ [⟨1, (4 : Nat), 4294967296, 0, false⟩]) ++ [⟨1, (5 : Nat), 4294967300, 0, false⟩]) ++ [⟨1, (1 : Nat), 1, 0, false⟩]) ++ [⟨1, (2 : Nat), 1, 0, false⟩]) ++ [⟨1, (0 : Nat), 5, 0, false⟩]) ++ [⟨1, (4 : Nat), 4294967296, 0, false⟩]) ++ [⟨1, (5 : Nat), 4294967300, 0, false⟩]) ++ [⟨1, (1 : Nat), 2, 0, false⟩]) ++ [⟨1, (4 : Nat), 4294967296, 0, false⟩]) ++ [⟨1, (5 : Nat), 4294967300, 0, false⟩]), 0, [1, 1, 5, 4294967296, 4294967300, 2, 4294967296, 4294967300], 5, false, true⟩, 16, true) := by kernel_rfl
end Go.Proofs.Ytlkniogapdhcpaa


namespace Go.Proofs.Ytlkniogapdhcpaa
open Go.RowKit
set_option linter.unusedVariables false
set_option linter.unusedSimpArgs false
set_option maxRecDepth 100000
set_option maxHeartbeats 4000000 in
theorem law7_head (w : World) : Calls Try.prog 9 #[] w (Ret (.bool true) w) := by
  go_enter Try.func9, Try.ntmps9
  go_wp2_with fail
  refine (law7_laid w.heap.size _ w.heap.size 6 6 [5, 1, 1, 2, 3, 4294967300] (Blk.ints (Blk.made rfl rfl)) rfl (by decide) (by simp)).mono ?_
  rintro e w1 ⟨m, a, lv, rfl, hm, hk, hzm, hza⟩
  have HM := hid (show MemAt w.heap.size w1 m a lv [5, 1, 1, 2, 3, 4294967300] [] from hm)
  have HK1 : Hid (Keep0 w w1) := hid (Keep0.step ((Keep.refl _ w).alloc _) hk)
  clear hm hk hzm hza
  go_wp2_with fail
  have hks := HK1.out.size
  refine (snap_Count 0 2 (2) _ (by omega) (by omega)).mono ?_
  rintro e w2 ⟨xp, Rp, rfl, hk, hx, hr⟩
  have HRMp := hid (new_mf HM.out hr)
  have hrzp : ∀ k, Rp k → w.heap.size ≤ k := fun k h => Nat.le_trans hks (hr k h)
  have HK2 : Hid (Keep0 w w2) := hid (Keep0.step (by repeat (with_reducible first | exact Keep.refl _ _ | exact HK1.out | apply Keep.alloc | apply Keep.drewN | apply Keep.drew)) hk)
  have THM := MemAt.same (by repeat (with_reducible first | exact HM.out | apply MemAt.alloc | apply MemAt.drew)) hk
  clear hk HM HK1
  have HM := hid THM
  clear THM
  have HXp := hid (hx ([5, 1, 1, 2, 3, 4294967300]) ([]))
  clear hks hx hr
  go_wp2_with fail
  have hp := play_count (b := 0) (s := 2) (B := w.heap.size) (w := w2) (m := m) (a := a) (x := xp) (lv := lv) (R := Rp) ⟨[5, 1, 1, 2, 3, 4294967300], ([] : List Acc), 2, [], 0, false, false⟩ [] none 0 0 0 (50) (by decide) HM.out HXp.out HRMp.out (NInv.start (by decide) (by decide) (by decide) (by decide)) (by simp) (by omega) (by simp) (fun h => by simp at h) (fun i h => by simp at h)
  rw [show (⟨[5, 1, 1, 2, 3, 4294967300], ([] : List Acc), 2, [], 0, false, false⟩ : SN).W.length = 6 from rfl] at hp
  rw [head7_a ([] : List Acc)] at hp
  refine hp.mono ?_
  rintro e w3 ⟨rfl, ⟨kk, lv', R', hm, ho, hx, hlen, hlg, hin, _, hr1, hr2⟩, hk⟩
  have hrz' : ∀ k, R' k → w.heap.size ≤ k := fun k h => (hr1 k h).elim (hrzp k) (fun h2 => Nat.le_trans HK2.out.size h2)
  have HK3 : Hid (Keep0 w w3) := hid (nplay_far HM.out hrzp hk HK2.out rfl)
  clear hp HM HXp HK2 hk hrzp HRMp ho hr1 
  obtain ⟨lv, hlv⟩ : ∃ v, v = lv' := ⟨_, rfl⟩
  subst hlv
  have HM := hid hm
  have HXp := hid hx
  have HIp := hid hin
  have HRMp := hid hr2
  have hrzp := hrz'
  have HLENp := hid hlen
  clear hm hx hin hr2 hrz' hlen hlg
  obtain ⟨Rp, hRR⟩ : ∃ v, v = R' := ⟨_, rfl⟩
  subst hRR
  go_wp2_with fail
  have hks := HK3.out.size
  refine (snap_Peek 0 _).mono ?_
  rintro e w4 ⟨xq, Rq, rfl, hk, hx, hr⟩
  have HRMq := hid (new_mf HM.out hr)
  have hrzq : ∀ k, Rq k → w.heap.size ≤ k := fun k h => Nat.le_trans hks (hr k h)
  have HDp_q := hid (fun k (h : Rp k) (h2 : Rq k) => (by have := HXp.out.lt k h; have := hr k h2; omega : False))
  have HDq_p := hid (fun k (h : Rq k) (h2 : Rp k) => (by have := HXp.out.lt k h2; have := hr k h; omega : False))
  have HK4 : Hid (Keep0 w w4) := hid (Keep0.step (by repeat (with_reducible first | exact Keep.refl _ _ | exact HK3.out | apply Keep.alloc | apply Keep.drewN | apply Keep.drew)) hk)
  have THM := MemAt.same (by repeat (with_reducible first | exact HM.out | apply MemAt.alloc | apply MemAt.drew)) hk
  have THXp := SnR.keep (show SnR _ _ _ _ _ _ from by repeat (with_reducible first | exact HXp.out | apply SnR.alloc | apply SnR.drew)) hk (fun _ _ h => h)
  clear hk HM HXp HK3
  have HM := hid THM
  clear THM
  have HXp := hid THXp
  clear THXp
  have HXq := hid (hx ([5, 1, 1, 2, 3, 4294967300]) (((((((((([] : List Acc) ++ [⟨1, (1 : Nat), 1, 0, false⟩]) ++ [⟨1, (2 : Nat), 1, 0, false⟩]) ++ [⟨1, (0 : Nat), 5, 0, false⟩]) ++ [⟨1, (4 : Nat), 3, 0, false⟩]) ++ [⟨1, (5 : Nat), 4294967300, 0, false⟩]) ++ [⟨1, (1 : Nat), 1, 0, false⟩]) ++ [⟨1, (4 : Nat), 3, 0, false⟩]) ++ [⟨1, (5 : Nat), 4294967300, 0, false⟩])))
  clear hks hx hr
  go_wp2_with fail
  have hp := play_peek (b := 0) (B := w.heap.size) (w := w4) (m := m) (a := a) (x := xq) (lv := lv) (R := Rq) ⟨[5, 1, 1, 2, 3, 4294967300], ((((((((([] : List Acc) ++ [⟨1, (1 : Nat), 1, 0, false⟩]) ++ [⟨1, (2 : Nat), 1, 0, false⟩]) ++ [⟨1, (0 : Nat), 5, 0, false⟩]) ++ [⟨1, (4 : Nat), 3, 0, false⟩]) ++ [⟨1, (5 : Nat), 4294967300, 0, false⟩]) ++ [⟨1, (1 : Nat), 1, 0, false⟩]) ++ [⟨1, (4 : Nat), 3, 0, false⟩]) ++ [⟨1, (5 : Nat), 4294967300, 0, false⟩]), 0, [], 0, false, false⟩ [] none 0 0 0 (50) (by decide) HM.out HXq.out HRMq.out (⟨by decide, fun _ => ⟨rfl, rfl⟩⟩) (by decide) (by omega) (by simp) (fun h => by simp at h) (fun i h => by simp at h)
  rw [show (⟨[5, 1, 1, 2, 3, 4294967300], ((((((((([] : List Acc) ++ [⟨1, (1 : Nat), 1, 0, false⟩]) ++ [⟨1, (2 : Nat), 1, 0, false⟩]) ++ [⟨1, (0 : Nat), 5, 0, false⟩]) ++ [⟨1, (4 : Nat), 3, 0, false⟩]) ++ [⟨1, (5 : Nat), 4294967300, 0, false⟩]) ++ [⟨1, (1 : Nat), 1, 0, false⟩]) ++ [⟨1, (4 : Nat), 3, 0, false⟩]) ++ [⟨1, (5 : Nat), 4294967300, 0, false⟩]), 0, [], 0, false, false⟩ : SN).W.length = 6 from rfl] at hp
  have hq := head7_b ((((((((([] : List Acc) ++ [⟨1, (1 : Nat), 1, 0, false⟩]) ++ [⟨1, (2 : Nat), 1, 0, false⟩]) ++ [⟨1, (0 : Nat), 5, 0, false⟩]) ++ [⟨1, (4 : Nat), 3, 0, false⟩]) ++ [⟨1, (5 : Nat), 4294967300, 0, false⟩]) ++ [⟨1, (1 : Nat), 1, 0, false⟩]) ++ [⟨1, (4 : Nat), 3, 0, false⟩]) ++ [⟨1, (5 : Nat), 4294967300, 0, false⟩])
  rw [hq] at hp
  clear hq
  refine hp.mono ?_
  rintro e w5 ⟨rfl, ⟨kk, lv', R', hm, ho, hx, hlen, hlg, hin, _, hr1, hr2⟩, hk⟩
  have hrz' : ∀ k, R' k → w.heap.size ≤ k := fun k h => (hr1 k h).elim (hrzq k) (fun h2 => Nat.le_trans HK4.out.size h2)
  have THXp := HXp.out.keep hk (fun k hr => nplay_no HM.out (HRMp.out k hr) (HDp_q.out k hr) (HXp.out.lt k hr))
  have HRNp := hid (fun k (hr : Rp k) => (play_mf7 HM.out ho HRMp.out HXp.out.lt k hr : ¬ MF m a lv' k))
  have HDNp := hid (fun k (h : Rp k) (h2 : R' k) => ((hr1 k h2).elim (HDp_q.out k h) (fun h3 => by have := HXp.out.lt k h; omega) : False))
  have HK5 : Hid (Keep0 w w5) := hid (nplay_far HM.out hrzq hk HK4.out rfl)
  clear hp HM HXq HK4 hk hrzq HRMq ho hr1 HXp HRMp HDp_q HDq_p
  obtain ⟨lv, hlv⟩ : ∃ v, v = lv' := ⟨_, rfl⟩
  subst hlv
  have HM := hid hm
  have HXq := hid hx
  have HIq := hid hin
  have HRMq := hid hr2
  have hrzq := hrz'
  have HLENq := hid hlen
  clear hm hx hin hr2 hrz' hlen hlg
  have HXp := hid THXp
  clear THXp
  have HRMp := HRNp
  have HDp_q := HDNp
  have HDq_p := hid (fun k (h : R' k) (h2 : Rp k) => HDNp.out k h2 h)
  clear HRNp HDNp
  obtain ⟨Rq, hRR⟩ : ∃ v, v = R' := ⟨_, rfl⟩
  subst hRR
  go_wp2_with fail
  have hks := HK5.out.size
  refine (snap_Count 0 2 (2) _ (by omega) (by omega)).mono ?_
  rintro e w6 ⟨xr, Rr, rfl, hk, hx, hr⟩
  have HRMr := hid (new_mf HM.out hr)
  have hrzr : ∀ k, Rr k → w.heap.size ≤ k := fun k h => Nat.le_trans hks (hr k h)
  have HDp_r := hid (fun k (h : Rp k) (h2 : Rr k) => (by have := HXp.out.lt k h; have := hr k h2; omega : False))
  have HDr_p := hid (fun k (h : Rr k) (h2 : Rp k) => (by have := HXp.out.lt k h2; have := hr k h; omega : False))
  have HDq_r := hid (fun k (h : Rq k) (h2 : Rr k) => (by have := HXq.out.lt k h; have := hr k h2; omega : False))
  have HDr_q := hid (fun k (h : Rr k) (h2 : Rq k) => (by have := HXq.out.lt k h2; have := hr k h; omega : False))
  have HK6 : Hid (Keep0 w w6) := hid (Keep0.step (by repeat (with_reducible first | exact Keep.refl _ _ | exact HK5.out | apply Keep.alloc | apply Keep.drewN | apply Keep.drew)) hk)
  have THM := MemAt.same (by repeat (with_reducible first | exact HM.out | apply MemAt.alloc | apply MemAt.drew)) hk
  have THXp := SnR.keep (show SnR _ _ _ _ _ _ from by repeat (with_reducible first | exact HXp.out | apply SnR.alloc | apply SnR.drew)) hk (fun _ _ h => h)
  have THXq := PkR.keep (show PkR _ _ _ _ _ from by repeat (with_reducible first | exact HXq.out | apply PkR.alloc | apply PkR.drew)) hk (fun _ _ h => h)
  clear hk HM HXp HXq HK5
  have HM := hid THM
  clear THM
  have HXp := hid THXp
  clear THXp
  have HXq := hid THXq
  clear THXq
  have HXr := hid (hx ([5, 1, 1, 2, 3, 4294967300]) ((((((((((([] : List Acc) ++ [⟨1, (1 : Nat), 1, 0, false⟩]) ++ [⟨1, (2 : Nat), 1, 0, false⟩]) ++ [⟨1, (0 : Nat), 5, 0, false⟩]) ++ [⟨1, (4 : Nat), 3, 0, false⟩]) ++ [⟨1, (5 : Nat), 4294967300, 0, false⟩]) ++ [⟨1, (1 : Nat), 1, 0, false⟩]) ++ [⟨1, (4 : Nat), 3, 0, false⟩]) ++ [⟨1, (5 : Nat), 4294967300, 0, false⟩]) ++ [⟨1, (0 : Nat), 5, 0, false⟩])))
  clear hks hx hr
  go_wp2_with fail
  obtain ⟨w7, hw7⟩ : ∃ w', w' = w6.alloc (.cells #[i64 5, i64 4, i64 4294967296, i64 13, i64 0, i64 9, i64 13, i64 1, i64 2] 72) := ⟨_, rfl⟩
  rw [← hw7]
  have hk : Keep0 w6 w7 := by rw [hw7]; exact (Keep.refl _ _).alloc _
  have hbp : Blk w7 w6.heap.size 72 [i64 5, i64 4, i64 4294967296, i64 13, i64 0, i64 9, i64 13, i64 1, i64 2] := by rw [hw7]; exact Blk.made rfl rfl
  have hml := new_mf HM.out (R := fun k => w6.heap.size ≤ k) (fun k h => h)
  have hrr := HXr.out.lt
  obtain ⟨gp, hgp⟩ : ∃ gp, gp = w6.heap.size := ⟨_, rfl⟩
  have hgm : ¬ MF m a lv gp := hml gp (by rw [hgp]; exact Nat.le_refl _)
  have hgr : ¬ Rr gp := fun h => by have := hrr gp h; omega
  rw [← hgp] at hbp
  rw [← hgp]
  have HK7 : Hid (Keep0 w w7) := hid (Keep0.step (by repeat (with_reducible first | exact Keep.refl _ _ | exact HK6.out | apply Keep.alloc | apply Keep.drewN | apply Keep.drew)) hk)
  have THM := MemAt.same (by repeat (with_reducible first | exact HM.out | apply MemAt.alloc | apply MemAt.drew)) hk
  have THXp := SnR.keep (show SnR _ _ _ _ _ _ from by repeat (with_reducible first | exact HXp.out | apply SnR.alloc | apply SnR.drew)) hk (fun _ _ h => h)
  have THXq := PkR.keep (show PkR _ _ _ _ _ from by repeat (with_reducible first | exact HXq.out | apply PkR.alloc | apply PkR.drew)) hk (fun _ _ h => h)
  have THXr := SnR.keep (show SnR _ _ _ _ _ _ from by repeat (with_reducible first | exact HXr.out | apply SnR.alloc | apply SnR.drew)) hk (fun _ _ h => h)
  clear hk HM HXp HXq HXr HK6
  have HM := hid THM
  clear THM
  have HXp := hid THXp
  clear THXp
  have HXq := hid THXq
  clear THXq
  have HXr := hid THXr
  clear THXr
  have hpc : ∀ i (h : i < ([⟨5, 4, 4294967296⟩, ⟨13, 0, 9⟩, ⟨13, 1, 2⟩] : List Pk).length), w7.cell? ⟨gp, 0 + i * 3, none⟩ = some (i64 ([⟨5, 4, 4294967296⟩, ⟨13, 0, 9⟩, ⟨13, 1, 2⟩] : List Pk)[i].at_) ∧ w7.cell? ⟨gp, 0 + i * 3 + 1, none⟩ = some (i64 ([⟨5, 4, 4294967296⟩, ⟨13, 0, 9⟩, ⟨13, 1, 2⟩] : List Pk)[i].w) ∧ w7.cell? ⟨gp, 0 + i * 3 + 2, none⟩ = some (i64 ([⟨5, 4, 4294967296⟩, ⟨13, 0, 9⟩, ⟨13, 1, 2⟩] : List Pk)[i].x) := by
    intro i hi
    have hi3 : i = 0 ∨ i = 1 ∨ i = 2 := by simp at hi; omega
    rcases hi3 with rfl | rfl | rfl
    · exact ⟨hbp.cell 0, hbp.cell 1, hbp.cell 2⟩
    · exact ⟨hbp.cell 3, hbp.cell 4, hbp.cell 5⟩
    · exact ⟨hbp.cell 6, hbp.cell 7, hbp.cell 8⟩
  have hp := play_count (b := 0) (s := 2) (B := w.heap.size) (w := w7) (m := m) (a := a) (x := xr) (lv := lv) (R := Rr) ⟨[5, 1, 1, 2, 3, 4294967300], (((((((((([] : List Acc) ++ [⟨1, (1 : Nat), 1, 0, false⟩]) ++ [⟨1, (2 : Nat), 1, 0, false⟩]) ++ [⟨1, (0 : Nat), 5, 0, false⟩]) ++ [⟨1, (4 : Nat), 3, 0, false⟩]) ++ [⟨1, (5 : Nat), 4294967300, 0, false⟩]) ++ [⟨1, (1 : Nat), 1, 0, false⟩]) ++ [⟨1, (4 : Nat), 3, 0, false⟩]) ++ [⟨1, (5 : Nat), 4294967300, 0, false⟩]) ++ [⟨1, (0 : Nat), 5, 0, false⟩]), 2, [], 0, false, false⟩ [⟨5, 4, 4294967296⟩, ⟨13, 0, 9⟩, ⟨13, 1, 2⟩] (some ⟨gp, 0, none⟩) gp 0 3 (50) (by decide) HM.out HXr.out HRMr.out (NInv.start (by decide) (by decide) (by decide) (by decide)) (by decide) (by omega) (by simp) (fun _ => ⟨rfl, hbp.lt, fun e => hgm (Or.inl e), fun e => hgm (Or.inr (Or.inl e)), hgr, fun e => hgm (Or.inr (Or.inr e))⟩) hpc
  rw [show (⟨[5, 1, 1, 2, 3, 4294967300], (((((((((([] : List Acc) ++ [⟨1, (1 : Nat), 1, 0, false⟩]) ++ [⟨1, (2 : Nat), 1, 0, false⟩]) ++ [⟨1, (0 : Nat), 5, 0, false⟩]) ++ [⟨1, (4 : Nat), 3, 0, false⟩]) ++ [⟨1, (5 : Nat), 4294967300, 0, false⟩]) ++ [⟨1, (1 : Nat), 1, 0, false⟩]) ++ [⟨1, (4 : Nat), 3, 0, false⟩]) ++ [⟨1, (5 : Nat), 4294967300, 0, false⟩]) ++ [⟨1, (0 : Nat), 5, 0, false⟩]), 2, [], 0, false, false⟩ : SN).W.length = 6 from rfl] at hp
  have hq := head7_c (((((((((([] : List Acc) ++ [⟨1, (1 : Nat), 1, 0, false⟩]) ++ [⟨1, (2 : Nat), 1, 0, false⟩]) ++ [⟨1, (0 : Nat), 5, 0, false⟩]) ++ [⟨1, (4 : Nat), 3, 0, false⟩]) ++ [⟨1, (5 : Nat), 4294967300, 0, false⟩]) ++ [⟨1, (1 : Nat), 1, 0, false⟩]) ++ [⟨1, (4 : Nat), 3, 0, false⟩]) ++ [⟨1, (5 : Nat), 4294967300, 0, false⟩]) ++ [⟨1, (0 : Nat), 5, 0, false⟩])
  rw [hq] at hp
  clear hq hpc hbp hgm hgr hml hrr hgp hw7
  refine hp.mono ?_
  rintro e w8 ⟨rfl, ⟨kk, lv', R', hm, ho, hx, hlen, hlg, hin, _, hr1, hr2⟩, hk⟩
  have hrz' : ∀ k, R' k → w.heap.size ≤ k := fun k h => (hr1 k h).elim (hrzr k) (fun h2 => Nat.le_trans HK7.out.size h2)
  have THXp := HXp.out.keep hk (fun k hr => nplay_no HM.out (HRMp.out k hr) (HDp_r.out k hr) (HXp.out.lt k hr))
  have HRNp := hid (fun k (hr : Rp k) => (play_mf7 HM.out ho HRMp.out HXp.out.lt k hr : ¬ MF m a lv' k))
  have HDNp := hid (fun k (h : Rp k) (h2 : R' k) => ((hr1 k h2).elim (HDp_r.out k h) (fun h3 => by have := HXp.out.lt k h; omega) : False))
  have THXq := HXq.out.keep hk (fun k hr => nplay_no HM.out (HRMq.out k hr) (HDq_r.out k hr) (HXq.out.lt k hr))
  have HRNq := hid (fun k (hr : Rq k) => (play_mf7 HM.out ho HRMq.out HXq.out.lt k hr : ¬ MF m a lv' k))
  have HDNq := hid (fun k (h : Rq k) (h2 : R' k) => ((hr1 k h2).elim (HDq_r.out k h) (fun h3 => by have := HXq.out.lt k h; omega) : False))
  have HK8 : Hid (Keep0 w w8) := hid (nplay_far HM.out hrzr hk HK7.out rfl)
  clear hp HM HXr HK7 hk hrzr HRMr ho hr1 HXp HXq HRMp HDp_r HDr_p HRMq HDq_r HDr_q
  obtain ⟨lv, hlv⟩ : ∃ v, v = lv' := ⟨_, rfl⟩
  subst hlv
  have HM := hid hm
  have HXr := hid hx
  have HIr := hid hin
  have HRMr := hid hr2
  have hrzr := hrz'
  have HLENr := hid hlen
  clear hm hx hin hr2 hrz' hlen hlg
  have HXp := hid THXp
  clear THXp
  have HXq := hid THXq
  clear THXq
  have HRMp := HRNp
  have HDp_r := HDNp
  have HDr_p := hid (fun k (h : R' k) (h2 : Rp k) => HDNp.out k h2 h)
  clear HRNp HDNp
  have HRMq := HRNq
  have HDq_r := HDNq
  have HDr_q := hid (fun k (h : R' k) (h2 : Rq k) => HDNq.out k h2 h)
  clear HRNq HDNq
  obtain ⟨Rr, hRR⟩ : ∃ v, v = R' := ⟨_, rfl⟩
  subst hRR
  clear HM
  go_wp2_with fail
  refine (count_Ans _ HXp.out).mono ?_
  rintro e w9 ⟨rfl, hk⟩
  have HK9 : Hid (Keep0 w w9) := hid (Keep0.step (by repeat (with_reducible first | exact Keep.refl _ _ | exact HK8.out | apply Keep.alloc | apply Keep.drewN | apply Keep.drew)) hk)
  have THXp := SnR.keep (show SnR _ _ _ _ _ _ from by repeat (with_reducible first | exact HXp.out | apply SnR.alloc | apply SnR.drew)) hk (fun _ _ h => h)
  have THXq := PkR.keep (show PkR _ _ _ _ _ from by repeat (with_reducible first | exact HXq.out | apply PkR.alloc | apply PkR.drew)) hk (fun _ _ h => h)
  have THXr := SnR.keep (show SnR _ _ _ _ _ _ from by repeat (with_reducible first | exact HXr.out | apply SnR.alloc | apply SnR.drew)) hk (fun _ _ h => h)
  clear hk HXp HXq HXr HK8
  have HXp := hid THXp
  clear THXp
  have HXq := hid THXq
  clear THXq
  have HXr := hid THXr
  clear THXr
  go_wp2_with fail
  refine (peek_Ans _ HXq.out).mono ?_
  rintro e w10 ⟨rfl, hk⟩
  have HK10 : Hid (Keep0 w w10) := hid (Keep0.step (by repeat (with_reducible first | exact Keep.refl _ _ | exact HK9.out | apply Keep.alloc | apply Keep.drewN | apply Keep.drew)) hk)
  have THXp := SnR.keep (show SnR _ _ _ _ _ _ from by repeat (with_reducible first | exact HXp.out | apply SnR.alloc | apply SnR.drew)) hk (fun _ _ h => h)
  have THXq := PkR.keep (show PkR _ _ _ _ _ from by repeat (with_reducible first | exact HXq.out | apply PkR.alloc | apply PkR.drew)) hk (fun _ _ h => h)
  have THXr := SnR.keep (show SnR _ _ _ _ _ _ from by repeat (with_reducible first | exact HXr.out | apply SnR.alloc | apply SnR.drew)) hk (fun _ _ h => h)
  clear hk HXp HXq HXr HK9
  have HXp := hid THXp
  clear THXp
  have HXq := hid THXq
  clear THXq
  have HXr := hid THXr
  clear THXr
  go_wp2_with fail
  refine (count_Ans _ HXr.out).mono ?_
  rintro e w11 ⟨rfl, hk⟩
  have HK11 : Hid (Keep0 w w11) := hid (Keep0.step (by repeat (with_reducible first | exact Keep.refl _ _ | exact HK10.out | apply Keep.alloc | apply Keep.drewN | apply Keep.drew)) hk)
  have THXp := SnR.keep (show SnR _ _ _ _ _ _ from by repeat (with_reducible first | exact HXp.out | apply SnR.alloc | apply SnR.drew)) hk (fun _ _ h => h)
  have THXq := PkR.keep (show PkR _ _ _ _ _ from by repeat (with_reducible first | exact HXq.out | apply PkR.alloc | apply PkR.drew)) hk (fun _ _ h => h)
  have THXr := SnR.keep (show SnR _ _ _ _ _ _ from by repeat (with_reducible first | exact HXr.out | apply SnR.alloc | apply SnR.drew)) hk (fun _ _ h => h)
  clear hk HXp HXq HXr HK10
  have HXp := hid THXp
  clear THXp
  have HXq := hid THXq
  clear THXq
  have HXr := hid THXr
  clear THXr
  go_wp2_with fail
  go_ret
  exact ⟨rfl, HK11.out⟩
end Go.Proofs.Ytlkniogapdhcpaa
