/- Contracts and plain laws for UsageWay, part 8: what the walk of the law leans on. -/
import Derived.Test.YthaceckccobgeaaGreatZUsageWay4
import Derived.Test.YthaceckccobgeaaGreatZUsageWay5
import Derived.Test.YthaceckccobgeaaGreatZUsageWay6
import Derived.Test.YthaceckccobgeaaGreatZUsageWay7
namespace Go.Proofs.YthaceckccobgeaaGreat
open Go.RowKit
set_option linter.unusedVariables false
set_option linter.unusedSimpArgs false
set_option maxRecDepth 100000
theorem refb_post {B m y : Nat} {A : Option Addr} {lv : Value} {T : TypeId} {cells : List Value} {W' : List Int} {L' : List Acc} {U Rm Rx : Nat → Prop} {w w' : World} (hT : T ≠ 42 ∧ T ≠ 3 ∧ T ≠ 112) (e1 : ∀ k, Rm k ↔ RF m A lv k) (e2 : ∀ k, Rx k ↔ k = y) (e : ∀ k, U k ↔ Rm k ∨ Rx k)
 {A' : Option Addr} {c' : Nat} {lv' : Value} (h1 : RefAt B w' m A' c' lv' W' L') (h2 : Blk w' y T cells) (hk : Keep (fun c => (c = m ∨ lv.ownBlock = some c) ∨ c = y) w w')
 (h3 : ∀ c, (Value.slice A' 0 0).ownBlock = some c → (Value.slice A 0 0).ownBlock = some c ∨ w.heap.size ≤ c) (h4 : ∀ c, lv'.ownBlock = some c → lv.ownBlock = some c ∨ w.heap.size ≤ c) :
 Tr ((refO B m W' L').star (Ass.blk y T cells)) U w w' := by
 refine ⟨fun k => RF m A' lv' k ∨ k = y, ⟨RF m A' lv', fun k => k = y, ⟨A', c', lv', h1, fun _ => Iff.rfl⟩, ⟨h2, fun _ => Iff.rfl⟩, ?_, fun _ => Iff.rfl⟩, hk.mono ?_, ?_⟩
 · rintro k (h | h | h) rfl
   · exact h2.ne h1.mem hT.1 h
   · exact ownBlock_ne h1.words h2 hT.2.1 ((own_any _ _ _ _ _).trans h).symm
   · exact ownBlock_ne h1.log h2 hT.2.2 h.symm
 · rintro k ((h | h) | h)
   · exact (e k).2 (Or.inl ((e1 k).2 (Or.inl h)))
   · exact (e k).2 (Or.inl ((e1 k).2 (Or.inr (Or.inr h))))
   · exact (e k).2 (Or.inr ((e2 k).2 h))
 · rintro k ((h | h | h) | h)
   · exact Or.inl ((e k).2 (Or.inl ((e1 k).2 (Or.inl h))))
   · exact (h3 k h).imp (fun h => (e k).2 (Or.inl ((e1 k).2 (Or.inr (Or.inl h))))) id
   · exact (h4 k h).imp (fun h => (e k).2 (Or.inl ((e1 k).2 (Or.inr (Or.inr h))))) id
   · exact Or.inl ((e k).2 (Or.inr ((e2 k).2 h)))
def r11O (C : CC) (K s y : Nat) (t : CS) : Ass := Ass.blk y 120 (rcs11 C K s t)
def r8O (C : CC) (k nd n st : Int) (y : Nat) (x : PS) : Ass := Ass.ex fun e : Int => (Ass.blk y 122 (rcs C.tt C.sr C.g C.lm C.r k C.PA C.pn C.pc C.LA C.ln C.lc nd n st x e)).with_ (x.next < 7 → e = x.extra)
def r8A (s l k nd n st : Int) (y : Nat) (x : PS) : Ass := Ass.ex fun C : CC => (r8O C k nd n st y x).with_ (C.sr = s ∧ C.lm = l)
def r6O (b s : Nat) (g d : Int) (y : Nat) (t : AS) : Ass := Ass.blk y 127 (rcs6 b s g d t)
section
variable {B m y : Nat} {R : Nat → Prop} {w : World}
theorem r11O_Step {C : CC} {K s q : Nat} {t : CS} (h : ((refO B m t.W t.L).star (r11O C K s y t)).At R w) (hi : CInv K q t) (hk : COk C K q K) (hs : s ≤ 1000000) (hL : t.L.length ≤ 1000000000) :
 Calls Tryz.prog 49 #[ptr y, ptr m] w fun e w' => e = .returned (.bool (cStp K s q t).2) ∧ Tr ((refO B m (cNext K s q t).W (cNext K s q t).L).star (r11O C K s y (cNext K s q t))) R w w' := by
 obtain ⟨Rm, Rx, ⟨A, c, lv, hm, e1⟩, ⟨hy, e2⟩, hd, e⟩ := h
 refine (r11_Step t hm hy hi hk hs hL).mono ?_
 rintro e' w' ⟨rfl, A', c', lv', h1, h2, h3, h4, h5⟩
 exact ⟨rfl, refb_post (by decide) e1 e2 e h1 h2 h3 h4 h5⟩
theorem r8O_Step {C : CC} {k nd n st X : Int} {av le : Nat} {x : PS} (h : ((refO B m x.W x.L).star (r8O C k nd n st y x)).At R w) (hi : PInv av le n C.lm X x) (hX : X ≤ 4398046511104) (hL : x.L.length ≤ 1000000000) (hW : x.W.length ≤ 1000000) (hs : 1 ≤ C.sr ∧ C.sr ≤ 8) (hv : 0 ≤ nd ∧ nd ≤ 1000) (hu : 0 ≤ st ∧ st ≤ 1000) (hav : (av : Int) = nd * (6 + 2 * C.sr) + 1) (hle : (le : Int) = nd * (6 + 2 * C.sr) + 2 + st) :
 Calls Tryz.prog 51 #[ptr y, ptr m] w fun e w' => e = .returned (.bool (pStp av le n C.lm x).2) ∧ Tr ((refO B m (pNext av le n C.lm x).W (pNext av le n C.lm x).L).star (r8O C k nd n st y (pNext av le n C.lm x))) R w w' := by
 obtain ⟨Rm, Rx, ⟨A, c, lv, hm, e1⟩, ⟨e0, ⟨hy, e2⟩, he⟩, hd, e⟩ := h
 refine (rpool_Step x hm hy he hi hX hL hW hs.1 hs.2 hv.1 hv.2 hu.1 hu.2 hav hle).mono ?_
 rintro e' w' ⟨rfl, A', c', lv', e3, h1, h2, h6, h3, h4, h5⟩
 refine ⟨rfl, (refb_post (by decide) e1 e2 e h1 h2 h3 h4 h5).mono ?_⟩
 intro V hv
 exact star_mono_r hv (fun V2 h => ⟨e3, h, h6⟩)
theorem r8A_Step {s l k nd n st X : Int} {av le : Nat} {x : PS} (h : ((refO B m x.W x.L).star (r8A s l k nd n st y x)).At R w) (hi : PInv av le n l X x) (hX : X ≤ 4398046511104) (hL : x.L.length ≤ 1000000000) (hW : x.W.length ≤ 1000000) (hs : 1 ≤ s ∧ s ≤ 8) (hv : 0 ≤ nd ∧ nd ≤ 1000) (hu : 0 ≤ st ∧ st ≤ 1000) (hav : (av : Int) = nd * (6 + 2 * s) + 1) (hle : (le : Int) = nd * (6 + 2 * s) + 2 + st) :
 Calls Tryz.prog 51 #[ptr y, ptr m] w fun e w' => e = .returned (.bool (pStp av le n l x).2) ∧ Tr ((refO B m (pNext av le n l x).W (pNext av le n l x).L).star (r8A s l k nd n st y (pNext av le n l x))) R w w' := by
 obtain ⟨Rm, Rx, h1, ⟨C, h2, rfl, rfl⟩, h3, h4⟩ := h
 refine (r8O_Step ⟨Rm, Rx, h1, h2, h3, h4⟩ hi hX hL hW hs hv hu hav hle).mono ?_
 rintro e w' ⟨rfl, ht⟩
 exact ⟨rfl, ht.mono (fun V hv => star_mono_r hv (fun V2 h => ⟨C, h, rfl, rfl⟩))⟩
theorem r6O_Step {b s : Nat} {g d : Int} {t : AS} (h : ((refO B m t.W t.L).star (r6O b s g d y t)).At R w) (hi : AInv b s g d t) (hb : b ≤ 1000) (hsp : t.sp ≤ 2000) (hL : t.L.length ≤ 1000000000) :
 Calls Tryz.prog 60 #[ptr y, ptr m] w fun e w' => e = .returned (.bool (aStp b s g d t).2) ∧ Tr ((refO B m (aNext b s g d t).W (aNext b s g d t).L).star (r6O b s g d y (aNext b s g d t))) R w w' := by
 obtain ⟨Rm, Rx, ⟨A, c, lv, hm, e1⟩, ⟨hy, e2⟩, hd, e⟩ := h
 refine (r6_Step t hm hy hi hb hsp hL).mono ?_
 rintro e' w' ⟨rfl, A', c', lv', h1, h2, h3, h4, h5⟩
 exact ⟨rfl, refb_post (by decide) e1 e2 e h1 h2 h3 h4 h5⟩
theorem refO_Add {W : List Int} {L : List Acc} (i : Nat) (d : Int) (h : (refO B m W L).At R w) (hi : i < W.length) (hW : W.length ≤ 1000000) (hL : L.length ≤ 1000000000) :
 Calls Tryz.prog 53 #[ptr m, i64 (i : Int), i64 d] w fun e w' => e = .returned (i64 (wrap64 (rd W i + d))) ∧ Tr (refO B m (W.set i (wrap64 (rd W i + d))) (L ++ [⟨2, (i : Nat), d, wrap64 (rd W i + d), false⟩])) R w w' := by
 obtain ⟨A, c, lv, hm, e⟩ := h
 refine (ref_Add (i : Int) d hm (by omega) (by omega) hW hL).mono ?_
 rintro e' w' ⟨rfl, h⟩
 rw [Int.toNat_natCast] at *
 exact ⟨rfl, refO_post e h⟩
theorem refO_Store {W : List Int} {L : List Acc} (i : Nat) (x : Int) (h : (refO B m W L).At R w) (hi : i < W.length) (hW : W.length ≤ 1000000) (hL : L.length ≤ 1000000000) :
 Calls Tryz.prog 57 #[ptr m, i64 (i : Int), i64 x] w fun e w' => e = .returned (.tuple #[]) ∧ Tr (refO B m (W.set i x) (L ++ [⟨4, (i : Nat), x, 0, false⟩])) R w w' := by
 obtain ⟨A, c, lv, hm, e⟩ := h
 refine (ref_Store (i : Int) x hm (by omega) (by omega) hW hL).mono ?_
 rintro e' w' ⟨rfl, h⟩
 rw [Int.toNat_natCast] at *
 exact ⟨rfl, refO_post e h⟩
end
theorem r6O_New (b s : Nat) (g d : Int) (th : Nat) (w : World) (hth : th ≤ 1000) (W : List Int) (L : List Acc) :
 Calls Tryz.prog 94 #[i64 (b : Int), i64 (s : Int), i64 g, i64 d, i64 (th : Int)] w fun e w' => ∃ y, e = .returned (ptr y) ∧ Nw (r6O b s g d y ⟨W, L, 0, dBegin th, 0, 0, 0, 0⟩) w w' := by
 obtain ⟨x7, hx7⟩ : ∃ n : Nat, (n : Int) = dBegin (th : Nat) := ⟨(dBegin (th : Nat)).toNat, Int.toNat_of_nonneg (Int.emod_nonneg _ (by omega))⟩
 refine (r6_New b s g d th w hth x7 hx7).mono ?_
 rintro e w' ⟨y, rfl, hz, hk, hb⟩
 rw [hx7] at hb
 exact ⟨y, rfl, fun k => k = y, ⟨by simpa [rcs6] using hb, fun k => Iff.rfl⟩, hk, fun k h => by subst h; exact hz⟩
set_option maxHeartbeats 2000000 in
theorem r8O_New (t s g l r k : Int) (P L : List Int) (pb po lb lo pc lc : Nat) (v n u : Int) (w : World) (hp : P.length ≤ 1000) (hl : L.length ≤ 1000)
 (hP : ∀ i, i < P.length → w.cell? ⟨pb, po + i, none⟩ = some (i64 (rd P i))) (hL : ∀ i, i < L.length → w.cell? ⟨lb, lo + i, none⟩ = some (i64 (rd L i))) (W : List Int) (LG : List Acc) :
 Calls Tryz.prog 111 #[.agg #[i64 t, i64 s, i64 g, i64 l, i64 r, i64 k, .slice (some ⟨pb, po, none⟩) P.length pc, .slice (some ⟨lb, lo, none⟩) L.length lc], i64 v, i64 n, i64 u] w fun e w' => ∃ y, e = .returned (ptr y) ∧ Nw (r8A s l k v n u y ⟨W, LG, 0, 0, 0, 0, false⟩) w w' := by
 have HOW := hid (ref_OwnT t s g l r k P L pb po lb lo pc lc (w.alloc (.cells #[i64 t, i64 s, i64 g, i64 l, i64 r, i64 k, .slice (some ⟨pb, po, none⟩) P.length pc, .slice (some ⟨lb, lo, none⟩) L.length lc] 24)) hp hl (fun i hi => by rw [World.cell?_alloc_lt _ _ _ (World.block_lt_of_cell? _ _ (hP i hi))]; exact hP i hi) (fun i hi => by rw [World.cell?_alloc_lt _ _ _ (World.block_lt_of_cell? _ _ (hL i hi))]; exact hL i hi))
 have HK0 : Hid (Keep0 w (w.alloc (.cells #[i64 t, i64 s, i64 g, i64 l, i64 r, i64 k, .slice (some ⟨pb, po, none⟩) P.length pc, .slice (some ⟨lb, lo, none⟩) L.length lc] 24))) := hid ((Keep.refl _ _).alloc _)
 clear hP hL
 go_enter Tryz.func111, Tryz.ntmps111
 go_wp2_with fail
 refine HOW.out.mono ?_
 rintro e w1 ⟨⟨PA, pc', LA, lc'⟩, rfl, _, _, hk, _⟩
 have HK1 : Hid (Keep0 w w1) := hid (Keep0.step HK0.out hk)
 clear hk
 go_wp2_with fail
 go_ret
 exact ⟨_, rfl, fun k => k = w1.heap.size, ⟨⟨t, s, g, l, r, PA, P.length, pc', LA, L.length, lc'⟩, ⟨0, ⟨Blk.made rfl rfl, fun _ => Iff.rfl⟩, fun _ => rfl⟩, rfl, rfl⟩, HK1.out.alloc _, fun k h => by subst h; exact HK1.out.size⟩
end Go.Proofs.YthaceckccobgeaaGreat

namespace Go.Proofs.YthaceckccobgeaaGreat
open Go.RowKit
set_option linter.unusedVariables false
set_option linter.unusedSimpArgs false
section
variable {R0 : Nat → Prop} {w0 w w' wx : World} {l l' base : List Ass} {p q : Ass} {Q : Value → Ass} {base' : Value → List Ass} {S : Nat → Bool} {gh : Nat → Value} {a z i : Nat}
theorem stars_app : ∀ (xs : List Ass) (U : Nat → Prop), ((stars xs).star (stars l)).At U w ↔ (stars (xs ++ l)).At U w := by
 intro xs
 induction xs with
 | nil =>
  intro U
  constructor
  · rintro ⟨R, V, h1, h2, h3, h4⟩
    have e : U = V := funext fun k => propext ⟨fun h => ((h4 k).1 h).elim (fun h => (h1 k h).elim) id, fun h => (h4 k).2 (Or.inr h)⟩
    rw [e]; exact h2
  · intro h
    exact ⟨fun _ => False, U, fun k h => h, h, fun k h => h.elim, fun k => ⟨Or.inr, fun h => h.elim False.elim id⟩⟩
 | cons p xs ih =>
  intro U
  constructor
  · intro h
    exact star_mono_r (star_assoc h) (fun V hv => (ih V).1 hv)
  · intro h
    exact star_assoc' (star_mono_r h (fun V hv => (ih V).2 hv))
theorem Sx.group (xs : List Ass) (h : Sx R0 w0 (xs ++ l) w) : Sx R0 w0 (stars xs :: l) w := Tr.mono h (fun V hv => (stars_app xs V).2 hv)
theorem Sx.ungroup (xs : List Ass) (h : Sx R0 w0 (stars xs :: l) w) : Sx R0 w0 (xs ++ l) w := Tr.mono h (fun V hv => (stars_app xs V).1 hv)
theorem St.ungroup (xs : List Ass) (h : St w0 (stars xs :: l) w) : St w0 (xs ++ l) w := by
 obtain ⟨h1, U, h2, h3⟩ := h
 exact ⟨h1, U, (stars_app xs U).1 h2, h3⟩
def NS (a z : Nat) (R0 : Nat → Prop) (w0 : World) (base : List Ass) (Q : Value → Ass) (base' : Value → List Ass) (S : Nat → Bool) (gh : Nat → Value) (wx : World) : Prop :=
 (S z = false → (S a = false → Sx R0 w0 base wx) ∧ (S a = true → Sx R0 w0 (Q (gh a) :: base) wx)) ∧ (S z = true → ∃ v, Sx R0 w0 (Q v :: base' v) wx)
theorem NS.start (h : Sx R0 w0 base w) (ha : a ≠ z) : NS a z R0 w0 base Q base' (fun _ => false) (fun _ => undef) w.drew :=
 ⟨fun _ => ⟨fun _ => h.drew, fun h => by cases h⟩, fun h => by cases h⟩
theorem NS.fixed (h : NS a z R0 w0 base Q base' S gh wx) (h1 : i ≠ a ∧ i ≠ z) : NS a z R0 w0 base Q base' (upd S i) gh wx := by
 unfold NS
 rw [show upd S i a = S a from by simp [upd, Ne.symm h1.1], show upd S i z = S z from by simp [upd, Ne.symm h1.2]]
 exact h
theorem NS.at_ (h : NS a z R0 w0 base Q base' S gh wx) (hz : S z = false) : ∃ R', (stars base).At R' wx := by
 cases ha : S a with
 | false =>
  obtain ⟨U, hu, _⟩ := (h.1 hz).1 ha
  exact ⟨U, hu⟩
 | true =>
  obtain ⟨U, ⟨_, V, _, hv, _⟩, _⟩ := (h.1 hz).2 ha
  exact ⟨V, hv⟩
theorem NS.made (h : NS a z R0 w0 base Q base' S gh wx) (haz : a ≠ z) (ha : S a = false) (hz : S z = false) (v : Value) (hn : Nw (Q v) wx w') : NS a z R0 w0 base Q base' (upd S a) (updv gh a v) w' := by
 unfold NS
 rw [show upd S a a = true from by simp [upd], show upd S a z = S z from by simp [upd, Ne.symm haz], updv_same, hz]
 exact ⟨fun _ => ⟨fun e => (by cases e), fun _ => ((h.1 hz).1 ha).nw hn⟩, fun e => (by cases e)⟩
theorem NS.done (h : NS a z R0 w0 base Q base' S gh wx) (ha : S a = true) (hz : S z = false) (ht : Sx R0 w0 (Q (gh a) :: base) wx → Sx R0 w0 (Q (gh a) :: base' (gh a)) w') : NS a z R0 w0 base Q base' (upd S z) gh w' := by
 unfold NS
 rw [show upd S z z = true from by simp [upd]]
 exact ⟨fun h => (by cases h), fun _ => ⟨_, ht ((h.1 hz).2 ha)⟩⟩
theorem NS.end_ (h : NS a z R0 w0 base Q base' S gh wx) (hz : S z = true) : ∃ v, Sx R0 w0 (Q v :: base' v) wx := h.2 hz
def CA (z : Nat) (P Q : World → Prop) (S : Nat → Bool) (wx : World) : Prop := (S z = false → P wx) ∧ (S z = true → Q wx)
theorem CA.fixed {P Q' : World → Prop} (h : CA z P Q' S wx) (hi : i ≠ z) : CA z P Q' (upd S i) wx := by
 unfold CA
 rw [show upd S i z = S z from by simp [upd, Ne.symm hi]]
 exact h
theorem CA.done {P Q' : World → Prop} (h : Q' wx) : CA z P Q' (upd S z) wx := by
 unfold CA
 rw [show upd S z z = true from by simp [upd]]
 exact ⟨(fun h => by cases h), fun _ => h⟩
theorem CA.mid {P Q' : World → Prop} (hz : S z = false) (hi : i ≠ z) (h : P wx) : CA z P Q' (upd S i) wx := by
 unfold CA
 rw [show upd S i z = S z from by simp [upd, Ne.symm hi], hz]
 exact ⟨fun _ => h, fun h => by cases h⟩
end
end Go.Proofs.YthaceckccobgeaaGreat

namespace Go.Proofs.YthaceckccobgeaaGreat
open Go.RowKit
set_option linter.unusedVariables false
set_option linter.unusedSimpArgs false
set_option maxRecDepth 100000
theorem Blk.k22 {w : World} {b : Nat} {t : TypeId} {v0 v1 v2 v3 v4 v5 v6 v7 v8 v9 v10 v11 v12 v13 v14 v15 v16 v17 v18 v19 v20 v21 : Value} (h : Blk w b t [v0, v1, v2, v3, v4, v5, v6, v7, v8, v9, v10, v11, v12, v13, v14, v15, v16, v17, v18, v19, v20, v21]) : w.cell? ⟨b, 0, none⟩ = some v0 ∧ w.cell? ⟨b, 1, none⟩ = some v1 ∧ w.cell? ⟨b, 2, none⟩ = some v2 ∧ w.cell? ⟨b, 3, none⟩ = some v3 ∧ w.cell? ⟨b, 4, none⟩ = some v4 ∧ w.cell? ⟨b, 5, none⟩ = some v5 ∧ w.cell? ⟨b, 6, none⟩ = some v6 ∧ w.cell? ⟨b, 7, none⟩ = some v7 ∧ w.cell? ⟨b, 8, none⟩ = some v8 ∧ w.cell? ⟨b, 9, none⟩ = some v9 ∧ w.cell? ⟨b, 10, none⟩ = some v10 ∧ w.cell? ⟨b, 11, none⟩ = some v11 ∧ w.cell? ⟨b, 12, none⟩ = some v12 ∧ w.cell? ⟨b, 13, none⟩ = some v13 ∧ w.cell? ⟨b, 14, none⟩ = some v14 ∧ w.cell? ⟨b, 15, none⟩ = some v15 ∧ w.cell? ⟨b, 16, none⟩ = some v16 ∧ w.cell? ⟨b, 17, none⟩ = some v17 ∧ w.cell? ⟨b, 18, none⟩ = some v18 ∧ w.cell? ⟨b, 19, none⟩ = some v19 ∧ w.cell? ⟨b, 20, none⟩ = some v20 ∧ w.cell? ⟨b, 21, none⟩ = some v21 ∧ (∀ o, w.frozen? ⟨b, o, none⟩ = false) ∧ b < w.heap.size ∧ b < w.heap.size + 1 ∧ b < w.heap.size + 1 + 1 ∧ b < w.heap.size + 1 + 1 + 1 ∧ b < w.heap.size + 1 + 1 + 1 + 1 :=
 ⟨h.cell 0, h.cell 1, h.cell 2, h.cell 3, h.cell 4, h.cell 5, h.cell 6, h.cell 7, h.cell 8, h.cell 9, h.cell 10, h.cell 11, h.cell 12, h.cell 13, h.cell 14, h.cell 15, h.cell 16, h.cell 17, h.cell 18, h.cell 19, h.cell 20, h.cell 21, h.frozen, h.lt, lts4 h.lt⟩
structure Ad12 where
 pb : Nat
 pc : Nat
 lb : Nat
 lc : Nat
 hb : Nat
 hc : Nat
 yc : Nat
 C : CC
abbrev cs12 (p : P12) (a : Ad12) (ph at_ : Int) (pv av : Value) (live err on ond : Int) : List Value := [i64 p.tt, i64 (p.s : Int), i64 p.g, i64 p.lm, i64 p.r, i64 (p.K : Int), .slice (some ⟨a.pb, 0, none⟩) p.P.length a.pc, .slice (some ⟨a.lb, 0, none⟩) p.LL.length a.lc, i64 (p.nd : Int), i64 p.n, i64 (p.th : Int), .slice (some ⟨a.hb, 0, none⟩) p.path.length a.hc, i64 ph, i64 at_, ptr a.yc, pv, av, i64 live, i64 err, i64 on, .bool false, i64 ond]
abbrev rP12 (p : P12) (a : Ad12) : Ass := rowO 3 1 (.slice (some ⟨a.pb, 0, none⟩) p.P.length a.pc) p.P.length (ints p.P)
abbrev rL12 (p : P12) (a : Ad12) : Ass := rowO 3 1 (.slice (some ⟨a.lb, 0, none⟩) p.LL.length a.lc) p.LL.length (ints p.LL)
abbrev rH12 (p : P12) (a : Ad12) : Ass := rowO 3 1 (.slice (some ⟨a.hb, 0, none⟩) p.path.length a.hc) p.path.length (ints (nats p.path))
theorem path_cell {p : P12} {c : Nat} {R : Nat → Prop} {w : World} {b : Nat} (h : (rowO 3 1 (.slice (some ⟨b, 0, none⟩) p.path.length c) p.path.length (ints (nats p.path))).At R w) {i : Nat} (hi : i < p.path.length) : w.cell? ⟨b, i, none⟩ = some (i64 ((p.v i : Nat) : Int)) := by
 obtain ⟨b', e, _, h2⟩ := rowO_cell h hi
 cases e
 exact h2 _ (by simp [ints, nats, P12.v, hi])
theorem path_lt {n c : Nat} {xs : List Value} {R : Nat → Prop} {w : World} {b : Nat} (h : (rowO 3 1 (.slice (some ⟨b, 0, none⟩) n c) n xs).At R w) (hn : 0 < n) : b < w.heap.size := by
 obtain ⟨b', e, h1, _⟩ := rowO_cell h hn
 cases e
 exact h1
theorem row_cell {n c : Nat} {l : List Int} {R : Nat → Prop} {w : World} {b : Nat} (h : (rowO 3 1 (.slice (some ⟨b, 0, none⟩) n c) n (ints l)).At R w) (hn : n = l.length) (i : Nat) (hi : i < l.length) : w.cell? ⟨b, 0 + i, none⟩ = some (i64 (rd l i)) := by
 obtain ⟨b', e, _, h2⟩ := rowO_cell h (show i < n by omega)
 cases e
 rw [Nat.zero_add]
 exact h2 _ (ints_get l i hi)
theorem nw_with {w w' : World} {y : Nat} {f : Nat → Ass} (h : Nw (f y) w w') : Nw (Ass.ex fun y' : Nat => (f y').with_ (ptr y = ptr y')) w w' := by
 obtain ⟨R, h1, h2, h3⟩ := h
 exact ⟨R, ⟨y, h1, rfl⟩, h2, h3⟩
section
variable {y : Nat} {p : P12} {t : S12} {a : Ad12} {pv av : Value} {R : Nat → Prop} {w : World}
set_option maxHeartbeats 4000000 in
theorem r12_pool (hp : P12OK p) (ha : t.at_ < p.path.length) (h : (stars [Ass.blk y 83 (cs12 p a ((t.ph : Nat)) ((t.at_ : Nat)) (pv) (av) (t.live) (t.err) (t.on) (t.ond)), rP12 p a, rL12 p a, rH12 p a]).At R w) :
 Calls Tryz.prog 89 #[ptr y] w fun e w' => ∃ v : Value, e = .returned (.tuple #[]) ∧ Tr (stars ((Ass.ex fun y' : Nat => (r8A p.s p.lm p.K (p.v t.at_) p.n p.u y' po0).with_ (v = ptr y')) :: [Ass.blk y 83 (cs12 p a ((t.ph : Nat)) ((t.at_ : Nat)) (v) (av) (t.live) (t.err) (t.on) (t.ond)), rP12 p a, rL12 p a, rH12 p a])) R w w' := by
 have HS := hid (Sx.start (R0 := R) (l := [Ass.blk y 83 (cs12 p a ((t.ph : Nat)) ((t.at_ : Nat)) (pv) (av) (t.live) (t.err) (t.on) (t.ond)), rP12 p a, rL12 p a, rH12 p a]) h)
 have hs8 := hp.s8
 have hn1 := hp.n1
 have hpl := hp.p1
 have hlb : p.LL.length ≤ 12 := by have := hp.ll; omega
 have ht1 := hp.t1
 have y1 : ((p.th : Int)).tmod (p.s : Int) = (p.u : Int) := by rw [Int.tmod_eq_emod_of_nonneg (by omega)]; rfl
 have y2 : ¬ p.s = 0 := by omega
 have HP := hid hp
 clear h hp
 go_enter Tryz.func89, Tryz.ntmps89
 apply wp_region_free (WI := NS 29 32 R w [Ass.blk y 83 (cs12 p a ((t.ph : Nat)) ((t.at_ : Nat)) (pv) (av) (t.live) (t.err) (t.on) (t.ond)), rP12 p a, rL12 p a, rH12 p a] (fun v => Ass.ex fun y' : Nat => (r8A p.s p.lm p.K (p.v t.at_) p.n p.u y' po0).with_ (v = ptr y')) (fun v => [Ass.blk y 83 (((cs12 p a ((t.ph : Nat)) ((t.at_ : Nat)) (pv) (av) (t.live) (t.err) (t.on) (t.ond))).set 15 v), rP12 p a, rL12 p a, rH12 p a])) (by kernel_rfl) (by kernel_rfl)
 case hob =>
  iterate 4
   apply ObligF.fixed
   case h =>
    intro S gh w1 hwi hSi hd hcl
    apply StepOk.intro
    intro K hK
    go_simp
    apply hK
    · rfl
    · conv => (lhs; whnf)
    · exact hwi.fixed (by decide)
   simp only [put_lit, put_none]
   try dsimp only [List.set_cons_succ, List.set_cons_zero]
  apply ObligF.fixed
  case h =>
   intro S gh w1 hwi hSi hd hcl
   apply StepOk.intro
   intro K hK
   have hlast : S 32 = false := by
    cases h : S 32 with
    | false => rfl
    | true => exact absurd ((hcl 32 _ rfl h) ⟨4, .phase⟩ (by simp) rfl) (by rw [hSi]; decide)
   obtain ⟨_, _, _, ⟨hby, _⟩, ⟨_, _, hrp, ⟨_, _, hrl, ⟨_, _, hrh, _⟩, _⟩, _⟩, _⟩ := hwi.at_ hlast
   have qyq := hby.k22
   go_simp
   apply hK
   · rfl
   · conv => (lhs; whnf)
   · exact hwi.fixed (by decide)
  simp only [put_lit, put_none]
  try dsimp only [List.set_cons_succ, List.set_cons_zero]
  iterate 3
   apply ObligF.fixed
   case h =>
    intro S gh w1 hwi hSi hd hcl
    apply StepOk.intro
    intro K hK
    go_simp
    apply hK
    · rfl
    · conv => (lhs; whnf)
    · exact hwi.fixed (by decide)
   simp only [put_lit, put_none]
   try dsimp only [List.set_cons_succ, List.set_cons_zero]
  apply ObligF.fixed
  case h =>
   intro S gh w1 hwi hSi hd hcl
   apply StepOk.intro
   intro K hK
   have hlast : S 32 = false := by
    cases h : S 32 with
    | false => rfl
    | true => exact absurd ((hcl 32 _ rfl h) ⟨8, .phase⟩ (by simp) rfl) (by rw [hSi]; decide)
   obtain ⟨_, _, _, ⟨hby, _⟩, ⟨_, _, hrp, ⟨_, _, hrl, ⟨_, _, hrh, _⟩, _⟩, _⟩, _⟩ := hwi.at_ hlast
   have qyq := hby.k22
   go_simp
   apply hK
   · rfl
   · conv => (lhs; whnf)
   · exact hwi.fixed (by decide)
  simp only [put_lit, put_none]
  try dsimp only [List.set_cons_succ, List.set_cons_zero]
  iterate 3
   apply ObligF.fixed
   case h =>
    intro S gh w1 hwi hSi hd hcl
    apply StepOk.intro
    intro K hK
    go_simp
    apply hK
    · rfl
    · conv => (lhs; whnf)
    · exact hwi.fixed (by decide)
   simp only [put_lit, put_none]
   try dsimp only [List.set_cons_succ, List.set_cons_zero]
  apply ObligF.fixed
  case h =>
   intro S gh w1 hwi hSi hd hcl
   apply StepOk.intro
   intro K hK
   have hlast : S 32 = false := by
    cases h : S 32 with
    | false => rfl
    | true => exact absurd ((hcl 32 _ rfl h) ⟨12, .phase⟩ (by simp) rfl) (by rw [hSi]; decide)
   obtain ⟨_, _, _, ⟨hby, _⟩, ⟨_, _, hrp, ⟨_, _, hrl, ⟨_, _, hrh, _⟩, _⟩, _⟩, _⟩ := hwi.at_ hlast
   have qyq := hby.k22
   go_simp
   apply hK
   · rfl
   · conv => (lhs; whnf)
   · exact hwi.fixed (by decide)
  simp only [put_lit, put_none]
  try dsimp only [List.set_cons_succ, List.set_cons_zero]
  apply ObligF.fixed
  case h =>
   intro S gh w1 hwi hSi hd hcl
   apply StepOk.intro
   intro K hK
   go_simp
   apply hK
   · rfl
   · conv => (lhs; whnf)
   · exact hwi.fixed (by decide)
  simp only [put_lit, put_none]
  try dsimp only [List.set_cons_succ, List.set_cons_zero]
  apply ObligF.fixed
  case h =>
   intro S gh w1 hwi hSi hd hcl
   apply StepOk.intro
   intro K hK
   have hlast : S 32 = false := by
    cases h : S 32 with
    | false => rfl
    | true => exact absurd ((hcl 32 _ rfl h) ⟨14, .phase⟩ (by simp) rfl) (by rw [hSi]; decide)
   obtain ⟨_, _, _, ⟨hby, _⟩, ⟨_, _, hrp, ⟨_, _, hrl, ⟨_, _, hrh, _⟩, _⟩, _⟩, _⟩ := hwi.at_ hlast
   have hcl := path_cell hrh (i := t.at_) ha
   have hcz := path_lt hrh (by omega)
   go_simp
   apply hK
   · rfl
   · conv => (lhs; whnf)
   · exact hwi.fixed (by decide)
  simp only [put_lit, put_none]
  try dsimp only [List.set_cons_succ, List.set_cons_zero]
  iterate 3
   apply ObligF.fixed
   case h =>
    intro S gh w1 hwi hSi hd hcl
    apply StepOk.intro
    intro K hK
    go_simp
    apply hK
    · rfl
    · conv => (lhs; whnf)
    · exact hwi.fixed (by decide)
   simp only [put_lit, put_none]
   try dsimp only [List.set_cons_succ, List.set_cons_zero]
  apply ObligF.fixed
  case h =>
   intro S gh w1 hwi hSi hd hcl
   apply StepOk.intro
   intro K hK
   have hlast : S 32 = false := by
    cases h : S 32 with
    | false => rfl
    | true => exact absurd ((hcl 32 _ rfl h) ⟨18, .phase⟩ (by simp) rfl) (by rw [hSi]; decide)
   obtain ⟨_, _, _, ⟨hby, _⟩, ⟨_, _, hrp, ⟨_, _, hrl, ⟨_, _, hrh, _⟩, _⟩, _⟩, _⟩ := hwi.at_ hlast
   have qyq := hby.k22
   go_simp
   apply hK
   · rfl
   · conv => (lhs; whnf)
   · exact hwi.fixed (by decide)
  simp only [put_lit, put_none]
  try dsimp only [List.set_cons_succ, List.set_cons_zero]
  iterate 3
   apply ObligF.fixed
   case h =>
    intro S gh w1 hwi hSi hd hcl
    apply StepOk.intro
    intro K hK
    go_simp
    apply hK
    · rfl
    · conv => (lhs; whnf)
    · exact hwi.fixed (by decide)
   simp only [put_lit, put_none]
   try dsimp only [List.set_cons_succ, List.set_cons_zero]
  apply ObligF.fixed
  case h =>
   intro S gh w1 hwi hSi hd hcl
   apply StepOk.intro
   intro K hK
   have hlast : S 32 = false := by
    cases h : S 32 with
    | false => rfl
    | true => exact absurd ((hcl 32 _ rfl h) ⟨22, .phase⟩ (by simp) rfl) (by rw [hSi]; decide)
   obtain ⟨_, _, _, ⟨hby, _⟩, ⟨_, _, hrp, ⟨_, _, hrl, ⟨_, _, hrh, _⟩, _⟩, _⟩, _⟩ := hwi.at_ hlast
   have qyq := hby.k22
   go_simp
   apply hK
   · rfl
   · conv => (lhs; whnf)
   · exact hwi.fixed (by decide)
  simp only [put_lit, put_none]
  try dsimp only [List.set_cons_succ, List.set_cons_zero]
  iterate 4
   apply ObligF.fixed
   case h =>
    intro S gh w1 hwi hSi hd hcl
    apply StepOk.intro
    intro K hK
    go_simp
    apply hK
    · rfl
    · conv => (lhs; whnf)
    · exact hwi.fixed (by decide)
   simp only [put_lit, put_none]
   try dsimp only [List.set_cons_succ, List.set_cons_zero]
  apply ObligF.fixed
  case h =>
   intro S gh w1 hwi hSi hd hcl
   apply StepOk.intro
   intro K hK
   have hlast : S 32 = false := by
    cases h : S 32 with
    | false => rfl
    | true => exact absurd ((hcl 32 _ rfl h) ⟨27, .phase⟩ (by simp) rfl) (by rw [hSi]; decide)
   obtain ⟨_, _, _, ⟨hby, _⟩, ⟨_, _, hrp, ⟨_, _, hrl, ⟨_, _, hrh, _⟩, _⟩, _⟩, _⟩ := hwi.at_ hlast
   have qyq := hby.k22
   go_simp
   apply hK
   · rfl
   · conv => (lhs; whnf)
   · exact hwi.fixed (by decide)
  simp only [put_lit, put_none]
  try dsimp only [List.set_cons_succ, List.set_cons_zero]
  apply ObligF.fixed
  case h =>
   intro S gh w1 hwi hSi hd hcl
   apply StepOk.intro
   intro K hK
   go_simp
   apply hK
   · rfl
   · conv => (lhs; whnf)
   · exact hwi.fixed (by decide)
  simp only [put_lit, put_none]
  try dsimp only [List.set_cons_succ, List.set_cons_zero]
  apply ObligF.free
  case h =>
   intro S gh w1 hwi hSi hd hcl
   apply StepG.intro
   intro K hK
   have hlast : S 32 = false := by
    cases h : S 32 with
    | false => rfl
    | true => exact absurd ((hcl 32 _ rfl h) ⟨29, .data⟩ (by simp) rfl) (by rw [hSi]; decide)
   obtain ⟨_, _, _, ⟨hby, _⟩, ⟨_, _, hrp, ⟨_, _, hrl, ⟨_, _, hrh, _⟩, _⟩, _⟩, _⟩ := hwi.at_ hlast
   have qyq := hby.k22
   go_simp
   refine Calls.mono (r8O_New p.tt p.s p.g p.lm p.r p.K p.P p.LL a.pb 0 a.lb 0 a.pc a.lc (p.v t.at_ : Nat) p.n p.u _ (by omega) (by omega) (row_cell hrp rfl) (row_cell hrl rfl) [] []) ?_
   rintro e w2 ⟨yn, rfl, hn⟩
   apply hK
   · rfl
   · exact hwi.made (by decide) hSi hlast (ptr yn) (nw_with hn)
  simp only [put_lit, put_none]
  try dsimp only [List.set_cons_succ, List.set_cons_zero]
  iterate 2
   apply ObligF.fixed
   case h =>
    intro S gh w1 hwi hSi hd hcl
    apply StepOk.intro
    intro K hK
    go_simp
    apply hK
    · rfl
    · conv => (lhs; whnf)
    · exact hwi.fixed (by decide)
   simp only [put_lit, put_none]
   try dsimp only [List.set_cons_succ, List.set_cons_zero]
  apply ObligF.fixed
  case h =>
   intro S gh w1 hwi hSi hd hcl
   apply StepOk.intro
   intro K hK
   have hmade := hd ⟨29, .data⟩ (by simp) rfl
   have hlast := hSi
   obtain ⟨_, _, _, ⟨hby, _⟩, ⟨_, _, hrp, ⟨_, _, hrl, ⟨_, _, hrh, _⟩, _⟩, _⟩, _⟩ := hwi.at_ hlast
   have qyq := hby.k22
   obtain ⟨_, ⟨yq, _, e1⟩, _⟩ := Sx.get ((hwi.1 hSi).2 hmade)
   rw [e1]
   go_simp
   apply hK
   · rfl
   · conv => (lhs; whnf)
   · exact hwi.done hmade hSi (fun hs => by rw [e1] at hs ⊢; exact Sx.pick (Sx.tr (Sx.pick hs 1 (by simp)) (fun R hr => blk_store hr 15 _)) 1 (by simp))
  simp only [put_lit, put_none]
  try dsimp only [List.set_cons_succ, List.set_cons_zero]
  exact ObligF.nil
 case h0 =>
  exact NS.start HS.out (by decide)
 case hend =>
  intro S gh wx hwi hall
  obtain ⟨v, hv⟩ := hwi.end_ (hall 32 (by decide))
  clear hwi hall
  have HV := hid hv
  clear hv
  go_end0
  exact ⟨v, rfl, HV.out⟩
end
end Go.Proofs.YthaceckccobgeaaGreat

namespace Go.Proofs.YthaceckccobgeaaGreat
open Go.RowKit
set_option linter.unusedVariables false
set_option linter.unusedSimpArgs false
set_option maxRecDepth 100000
theorem Nw.keep {p : Ass} {w w' w'' : World} (h : Nw p w w') (hk : Keep0 w' w'') : Nw p w w'' := by
 obtain ⟨R, h1, h2, h3⟩ := h
 exact ⟨R, p.st h1 hk (fun _ _ h => h), Keep0.step h2 hk, h3⟩
theorem Nw.before {p : Ass} {w w' w'' : World} (hk : Keep0 w w') (h : Nw p w' w'') : Nw p w w'' := by
 obtain ⟨R, h1, h2, h3⟩ := h
 exact ⟨R, h1, Keep0.step hk h2, fun k hr => Nat.le_trans hk.size (h3 k hr)⟩
def MK (a z : Nat) (f : Nat → Ass) (w0 : World) (S : Nat → Bool) (gh : Nat → Value) (wx : World) : Prop :=
 Keep0 w0 wx ∧ (S a = true → ∃ y, gh a = ptr y ∧ Nw (f y) w0 wx) ∧ (S z = true → ∃ y, gh z = ptr y ∧ Nw (f y) w0 wx)
section
variable {a z i : Nat} {f : Nat → Ass} {w0 wx w2 : World} {S : Nat → Bool} {gh : Nat → Value}
theorem MK.start (h : Keep0 w0 wx) : MK a z f w0 (fun _ => false) gh wx := ⟨h, (fun h => by cases h), (fun h => by cases h)⟩
theorem MK.fixed (h : MK a z f w0 S gh wx) (h1 : i ≠ a ∧ i ≠ z) : MK a z f w0 (upd S i) gh wx := by
 unfold MK
 rw [show upd S i a = S a from by simp [upd, Ne.symm h1.1], show upd S i z = S z from by simp [upd, Ne.symm h1.2]]
 exact h
theorem MK.keep (h : MK a z f w0 S gh wx) (hk : Keep0 wx w2) : MK a z f w0 S gh w2 := by
 obtain ⟨h1, h2, h3⟩ := h
 refine ⟨Keep0.step h1 hk, fun e => ?_, fun e => ?_⟩
 · obtain ⟨y, e1, hn⟩ := h2 e; exact ⟨y, e1, hn.keep hk⟩
 · obtain ⟨y, e1, hn⟩ := h3 e; exact ⟨y, e1, hn.keep hk⟩
theorem MK.made (h : MK a z f w0 S gh wx) (haz : a ≠ z) (y : Nat) (hn : Nw (f y) wx w2) : MK a z f w0 (upd S a) (updv gh a (ptr y)) w2 := by
 have hk : Keep0 wx w2 := hn.choose_spec.2.1
 obtain ⟨h1, h2, h3⟩ := h.keep hk
 unfold MK
 rw [show upd S a z = S z from by simp [upd, Ne.symm haz], updv_same, updv_ne (Ne.symm haz)]
 exact ⟨h1, fun _ => ⟨y, rfl, hn.before h.1⟩, h3⟩
theorem MK.hand (h : MK a z f w0 S gh wx) (haz : a ≠ z) (ha : S a = true) : MK a z f w0 (upd S z) (updv gh z (gh a)) wx := by
 obtain ⟨h1, h2, h3⟩ := h
 unfold MK
 rw [show upd S z a = S a from by simp [upd, haz], updv_same, updv_ne haz]
 exact ⟨h1, h2, fun _ => h2 ha⟩
end
set_option maxHeartbeats 4000000 in
theorem r12_Put (tt g lm r K : Int) (s : Nat) (PA : Option Addr) (pn pc : Nat) (LA : Option Addr) (ln lc : Nat) (v : Nat) (d : Int) (th : Nat) (w : World) (hs : 1 ≤ s ∧ s ≤ 8) (hv : v ≤ 1000) (hth : th ≤ 1000) (W : List Int) (L : List Acc) :
 Calls Tryz.prog 59 #[.agg #[i64 tt, i64 (s : Int), i64 g, i64 lm, i64 r, i64 K, .slice PA pn pc, .slice LA ln lc], i64 (v : Int), i64 d, i64 (th : Int)] w fun e w' => ∃ y, e = .returned (ptr y) ∧ Nw (r6O (v * (6 + 2 * s) + 2 + s) s g d y ⟨W, L, 0, dBegin th, 0, 0, 0, 0⟩) w w' := by
 have hk0 : Keep0 w (w.alloc (.cells #[i64 tt, i64 (s : Int), i64 g, i64 lm, i64 r, i64 K, .slice PA pn pc, .slice LA ln lc] 24)) := (Keep.refl _ _).alloc _
 have hb0 : Blk (w.alloc (.cells #[i64 tt, i64 (s : Int), i64 g, i64 lm, i64 r, i64 K, .slice PA pn pc, .slice LA ln lc] 24)) w.heap.size 24 [i64 tt, i64 (s : Int), i64 g, i64 lm, i64 r, i64 K, .slice PA pn pc, .slice LA ln lc] := Blk.made rfl rfl
 have hct := fun w' => ref_Counter tt s g lm r K PA pn pc LA ln lc v w' (by omega) (by omega) (by omega) (by omega)
 rw [show (v : Int) * (6 + 2 * (s : Int)) + 2 + (s : Int) = ((v * (6 + 2 * s) + 2 + s : Nat) : Int) from by push_cast; rfl] at hct
 generalize v * (6 + 2 * s) + 2 + s = b at *
 have HCT := hid hct
 clear hct
 go_enter Tryz.func59, Tryz.ntmps59
 have q0 := hb0.k8
 go_upto_region 1 with fail
 have HB := hid hb0
 have HK := hid hk0
 clear hb0 hk0 q0
 generalize w.alloc (.cells #[i64 tt, i64 (s : Int), i64 g, i64 lm, i64 r, i64 K, .slice PA pn pc, .slice LA ln lc] 24) = w1 at *
 apply wp_region_free (WI := MK 9 10 (fun y => r6O b s g d y ⟨W, L, 0, dBegin th, 0, 0, 0, 0⟩) w1) (by kernel_rfl) (by kernel_rfl)
 case hob =>
  iterate 2
   apply ObligF.fixed
   case h =>
    intro S gh w1 hwi hSi hd hcl
    apply StepOk.intro
    intro K hK
    have qb := (hwi.1.blk HB.out (fun h => h)).k8
    go_simp
    apply hK
    · rfl
    · conv => (lhs; whnf)
    · exact hwi.fixed (by decide)
   simp only [put_lit, put_none]
   try dsimp only [List.set_cons_succ, List.set_cons_zero]
  apply ObligF.fixed
  case h =>
   intro S gh w1 hwi hSi hd hcl
   apply StepOk.intro
   intro K hK
   go_simp
   refine (HCT.out _).mono ?_
   rintro e w2 ⟨rfl, hk⟩
   apply hK
   · rfl
   · conv => (lhs; whnf)
   · exact (hwi.keep hk).fixed (by decide)
  simp only [put_lit, put_none]
  try dsimp only [List.set_cons_succ, List.set_cons_zero]
  iterate 6
   apply ObligF.fixed
   case h =>
    intro S gh w1 hwi hSi hd hcl
    apply StepOk.intro
    intro K hK
    have qb := (hwi.1.blk HB.out (fun h => h)).k8
    go_simp
    apply hK
    · rfl
    · conv => (lhs; whnf)
    · exact hwi.fixed (by decide)
   simp only [put_lit, put_none]
   try dsimp only [List.set_cons_succ, List.set_cons_zero]
  apply ObligF.free
  case h =>
   intro S gh w1 hwi hSi hd hcl
   apply StepG.intro
   intro K hK
   have qb := (hwi.1.blk HB.out (fun h => h)).k8
   go_simp
   refine Calls.mono (r6O_New b s g d th _ (by omega) W L) ?_
   rintro e w2 ⟨yn, rfl, hn⟩
   apply hK
   · rfl
   · exact hwi.made (by decide) yn hn
  simp only [put_lit, put_none]
  try dsimp only [List.set_cons_succ, List.set_cons_zero]
  apply ObligF.free
  case h =>
   intro S gh w1 hwi hSi hd hcl
   apply StepG.intro
   intro K hK
   have h9 := hd ⟨9, .data⟩ (by simp) rfl
   go_simp
   apply hK
   · rfl
   · exact hwi.hand (by decide) h9
  simp only [put_lit, put_none]
  try dsimp only [List.set_cons_succ, List.set_cons_zero]
  exact ObligF.nil
 case h0 =>
  exact MK.start (Keep.refl _ _).drew
 case hend =>
  intro S gh wx hwi hall
  obtain ⟨y, e1, hn⟩ := hwi.2.2 (hall 10 (by decide))
  clear hwi hall
  have HN := hid hn
  clear hn
  rw [e1]
  go_wp2_with fail
  go_ret
  exact ⟨y, rfl, HN.out.before HK.out⟩
end Go.Proofs.YthaceckccobgeaaGreat

namespace Go.Proofs.YthaceckccobgeaaGreat
open Go.RowKit
set_option linter.unusedVariables false
set_option linter.unusedSimpArgs false
set_option maxRecDepth 100000
@[go_sem] theorem field_ans12_0 (x0 x1 x2 x3 : Value) (w : World) : (Instr.field 66 (.agg #[x0, x1, x2, x3]) 0).run Tryz.prog w = .ok x0 w := by kernel_rfl
@[go_sem] theorem field_ans12_1 (x0 x1 x2 x3 : Value) (w : World) : (Instr.field 66 (.agg #[x0, x1, x2, x3]) 1).run Tryz.prog w = .ok x1 w := by kernel_rfl
section
variable {y : Nat} {p : P12} {t : S12} {a : Ad12} {pv av : Value} {R : Nat → Prop} {w : World}
set_option maxHeartbeats 2000000 in
theorem r12_claimed_no (hf : t.cl.fin = 2) (hn : t.cl.n = 0) (h : (stars [Ass.blk y 83 (cs12 p a ((t.ph : Nat)) ((t.at_ : Nat)) (pv) (av) (t.live) (t.err) (t.on) (t.ond)), rP12 p a, rL12 p a, rH12 p a, r11O a.C p.K p.th a.yc t.cl]).At R w) :
 Calls Tryz.prog 50 #[ptr y] w fun e w' => e = .returned (.tuple #[]) ∧ Tr (stars [Ass.blk y 83 (cs12 p a (6) ((t.at_ : Nat)) (pv) (av) (t.live) (3) (0) (0)), rP12 p a, rL12 p a, rH12 p a, r11O a.C p.K p.th a.yc t.cl]) R w w' := by
 obtain ⟨w0, hw0⟩ : ∃ v, v = w := ⟨_, rfl⟩
 rw [← hw0] at h ⊢
 have HS := hid (show Sx R w0 [Ass.blk y 83 (cs12 p a ((t.ph : Nat)) ((t.at_ : Nat)) (pv) (av) (t.live) (t.err) (t.on) (t.ond)), rP12 p a, rL12 p a, rH12 p a, r11O a.C p.K p.th a.yc t.cl] w0 from Sx.start h)
 clear h hw0
 obtain ⟨_, ⟨hb, _⟩, _⟩ := Sx.get (show Sx R w0 [Ass.blk y 83 (cs12 p a ((t.ph : Nat)) ((t.at_ : Nat)) (pv) (av) (t.live) (t.err) (t.on) (t.ond)), rP12 p a, rL12 p a, rH12 p a, r11O a.C p.K p.th a.yc t.cl] w0 from (show Sx R w0 [Ass.blk y 83 (cs12 p a ((t.ph : Nat)) ((t.at_ : Nat)) (pv) (av) (t.live) (t.err) (t.on) (t.ond)), rP12 p a, rL12 p a, rH12 p a, r11O a.C p.K p.th a.yc t.cl] w0 from by repeat (with_reducible first | exact HS.out | apply Sx.alloc | apply Sx.drewN | apply Sx.drew)))
 have qy := hb.k22
 clear hb
 obtain ⟨_, ⟨hcl, _⟩, _⟩ := Sx.get (show Sx R w0 [r11O a.C p.K p.th a.yc t.cl, Ass.blk y 83 (cs12 p a ((t.ph : Nat)) ((t.at_ : Nat)) (pv) (av) (t.live) (t.err) (t.on) (t.ond)), rP12 p a, rL12 p a, rH12 p a] w0 from (Sx.pick (show Sx R w0 [Ass.blk y 83 (cs12 p a ((t.ph : Nat)) ((t.at_ : Nat)) (pv) (av) (t.live) (t.err) (t.on) (t.ond)), rP12 p a, rL12 p a, rH12 p a, r11O a.C p.K p.th a.yc t.cl] w0 from by repeat (with_reducible first | exact HS.out | apply Sx.alloc | apply Sx.drewN | apply Sx.drew)) 4 (by simp)))
 have HA := hid (r11_Ans t.cl hcl)
 clear hcl
 unfold clAns at HA
 rw [if_pos hf, hn] at HA
 go_enter Tryz.func50, Tryz.ntmps50
 go_wp2_with fail
 refine Calls.mono (HA.out) ?_
 rintro e w1 ⟨rfl, hk⟩
 have hs := Sx.keep (show Sx R w0 [Ass.blk y 83 (cs12 p a ((t.ph : Nat)) ((t.at_ : Nat)) (pv) (av) (t.live) (t.err) (t.on) (t.ond)), rP12 p a, rL12 p a, rH12 p a, r11O a.C p.K p.th a.yc t.cl] _ from by repeat (with_reducible first | exact HS.out | apply Sx.alloc | apply Sx.drewN | apply Sx.drew)) hk
 clear HS
 have HS := hid (show Sx R w0 [Ass.blk y 83 (cs12 p a ((t.ph : Nat)) ((t.at_ : Nat)) (pv) (av) (t.live) (t.err) (t.on) (t.ond)), rP12 p a, rL12 p a, rH12 p a, r11O a.C p.K p.th a.yc t.cl] w1 from hs)
 clear hs hk
 clear qy HA
 obtain ⟨_, ⟨hb, _⟩, _⟩ := Sx.get (show Sx R w0 [Ass.blk y 83 (cs12 p a ((t.ph : Nat)) ((t.at_ : Nat)) (pv) (av) (t.live) (t.err) (t.on) (t.ond)), rP12 p a, rL12 p a, rH12 p a, r11O a.C p.K p.th a.yc t.cl] w1 from (show Sx R w0 [Ass.blk y 83 (cs12 p a ((t.ph : Nat)) ((t.at_ : Nat)) (pv) (av) (t.live) (t.err) (t.on) (t.ond)), rP12 p a, rL12 p a, rH12 p a, r11O a.C p.K p.th a.yc t.cl] w1 from by repeat (with_reducible first | exact HS.out | apply Sx.alloc | apply Sx.drewN | apply Sx.drew)))
 have qy := hb.k22
 clear hb
 obtain ⟨_, ⟨hcl, _⟩, _⟩ := Sx.get (show Sx R w0 [r11O a.C p.K p.th a.yc t.cl, Ass.blk y 83 (cs12 p a ((t.ph : Nat)) ((t.at_ : Nat)) (pv) (av) (t.live) (t.err) (t.on) (t.ond)), rP12 p a, rL12 p a, rH12 p a] w1 from (Sx.pick (show Sx R w0 [Ass.blk y 83 (cs12 p a ((t.ph : Nat)) ((t.at_ : Nat)) (pv) (av) (t.live) (t.err) (t.on) (t.ond)), rP12 p a, rL12 p a, rH12 p a, r11O a.C p.K p.th a.yc t.cl] w1 from by repeat (with_reducible first | exact HS.out | apply Sx.alloc | apply Sx.drewN | apply Sx.drew)) 4 (by simp)))
 have HA := hid (r11_Ans t.cl hcl)
 clear hcl
 unfold clAns at HA
 rw [if_pos hf, hn] at HA
 go_wp2_with fail
 refine Calls.mono (HA.out) ?_
 rintro e w2 ⟨rfl, hk⟩
 have hs := Sx.keep (show Sx R w0 [Ass.blk y 83 (cs12 p a ((t.ph : Nat)) ((t.at_ : Nat)) (pv) (av) (t.live) (t.err) (t.on) (t.ond)), rP12 p a, rL12 p a, rH12 p a, r11O a.C p.K p.th a.yc t.cl] _ from by repeat (with_reducible first | exact HS.out | apply Sx.alloc | apply Sx.drewN | apply Sx.drew)) hk
 clear HS
 have HS := hid (show Sx R w0 [Ass.blk y 83 (cs12 p a ((t.ph : Nat)) ((t.at_ : Nat)) (pv) (av) (t.live) (t.err) (t.on) (t.ond)), rP12 p a, rL12 p a, rH12 p a, r11O a.C p.K p.th a.yc t.cl] w2 from hs)
 clear hs hk
 clear qy HA
 obtain ⟨_, ⟨hb, _⟩, _⟩ := Sx.get (show Sx R w0 [Ass.blk y 83 (cs12 p a ((t.ph : Nat)) ((t.at_ : Nat)) (pv) (av) (t.live) (t.err) (t.on) (t.ond)), rP12 p a, rL12 p a, rH12 p a, r11O a.C p.K p.th a.yc t.cl] w2 from (show Sx R w0 [Ass.blk y 83 (cs12 p a ((t.ph : Nat)) ((t.at_ : Nat)) (pv) (av) (t.live) (t.err) (t.on) (t.ond)), rP12 p a, rL12 p a, rH12 p a, r11O a.C p.K p.th a.yc t.cl] w2 from by repeat (with_reducible first | exact HS.out | apply Sx.alloc | apply Sx.drewN | apply Sx.drew)))
 have qy := hb.k22
 clear hb
 go_wp2_with fail
 (try simp only [Exit.inBlock, Exit.then])
 refine bodyPost_ret (results_none rfl _ _ _) rfl ?_
 exact ⟨rfl, (show Sx R w0 [Ass.blk y 83 (cs12 p a (6) ((t.at_ : Nat)) (pv) (av) (t.live) (3) (0) (0)), rP12 p a, rL12 p a, rH12 p a, r11O a.C p.K p.th a.yc t.cl] _ from (Sx.tr (Sx.tr (Sx.tr (Sx.tr (Sx.tr (show Sx R w0 [Ass.blk y 83 (cs12 p a ((t.ph : Nat)) ((t.at_ : Nat)) (pv) (av) (t.live) (t.err) (t.on) (t.ond)), rP12 p a, rL12 p a, rH12 p a, r11O a.C p.K p.th a.yc t.cl] _ from (show Sx R w0 [Ass.blk y 83 (cs12 p a ((t.ph : Nat)) ((t.at_ : Nat)) (pv) (av) (t.live) (t.err) (t.on) (t.ond)), rP12 p a, rL12 p a, rH12 p a, r11O a.C p.K p.th a.yc t.cl] _ from by repeat (with_reducible first | exact HS.out | apply Sx.alloc | apply Sx.drewN | apply Sx.drew))) (fun Rq hr => blk_store hr 18 (i64 3))) (fun Rq hr => blk_store hr 19 (i64 0))) (fun Rq hr => blk_store hr 20 (.bool false))) (fun Rq hr => blk_store hr 21 (i64 0))) (fun Rq hr => blk_store hr 12 (i64 6))))⟩
set_option maxHeartbeats 2000000 in
theorem r12_claimed_yes (hp : P12OK p) (ha : t.at_ < p.path.length) (hf : t.cl.fin = 1) (h : (stars [Ass.blk y 83 (cs12 p a ((t.ph : Nat)) ((t.at_ : Nat)) (pv) (av) (t.live) (t.err) (t.on) (t.ond)), rP12 p a, rL12 p a, rH12 p a, r11O a.C p.K p.th a.yc t.cl]).At R w) :
 Calls Tryz.prog 50 #[ptr y] w fun e w' => ∃ v : Value, e = .returned (.tuple #[]) ∧ Tr (stars ((Ass.ex fun y' : Nat => (r8A p.s p.lm p.K (p.v (t.at_)) p.n p.u y' (po0)).with_ (v = ptr y')) :: [Ass.blk y 83 (cs12 p a (((1 : Nat) : Int)) ((t.at_ : Nat)) (v) (av) (t.live) (t.err) (t.on) (t.ond)), rP12 p a, rL12 p a, rH12 p a, r11O a.C p.K p.th a.yc t.cl])) R w w' := by
 obtain ⟨w0, hw0⟩ : ∃ v, v = w := ⟨_, rfl⟩
 rw [← hw0] at h ⊢
 have HS := hid (show Sx R w0 [Ass.blk y 83 (cs12 p a ((t.ph : Nat)) ((t.at_ : Nat)) (pv) (av) (t.live) (t.err) (t.on) (t.ond)), rP12 p a, rL12 p a, rH12 p a, r11O a.C p.K p.th a.yc t.cl] w0 from Sx.start h)
 clear h hw0
 obtain ⟨_, ⟨hb, _⟩, _⟩ := Sx.get (show Sx R w0 [Ass.blk y 83 (cs12 p a ((t.ph : Nat)) ((t.at_ : Nat)) (pv) (av) (t.live) (t.err) (t.on) (t.ond)), rP12 p a, rL12 p a, rH12 p a, r11O a.C p.K p.th a.yc t.cl] w0 from (show Sx R w0 [Ass.blk y 83 (cs12 p a ((t.ph : Nat)) ((t.at_ : Nat)) (pv) (av) (t.live) (t.err) (t.on) (t.ond)), rP12 p a, rL12 p a, rH12 p a, r11O a.C p.K p.th a.yc t.cl] w0 from by repeat (with_reducible first | exact HS.out | apply Sx.alloc | apply Sx.drewN | apply Sx.drew)))
 have qy := hb.k22
 clear hb
 obtain ⟨_, ⟨hcl, _⟩, _⟩ := Sx.get (show Sx R w0 [r11O a.C p.K p.th a.yc t.cl, Ass.blk y 83 (cs12 p a ((t.ph : Nat)) ((t.at_ : Nat)) (pv) (av) (t.live) (t.err) (t.on) (t.ond)), rP12 p a, rL12 p a, rH12 p a] w0 from (Sx.pick (show Sx R w0 [Ass.blk y 83 (cs12 p a ((t.ph : Nat)) ((t.at_ : Nat)) (pv) (av) (t.live) (t.err) (t.on) (t.ond)), rP12 p a, rL12 p a, rH12 p a, r11O a.C p.K p.th a.yc t.cl] w0 from by repeat (with_reducible first | exact HS.out | apply Sx.alloc | apply Sx.drewN | apply Sx.drew)) 4 (by simp)))
 have HA := hid (r11_Ans t.cl hcl)
 clear hcl
 unfold clAns at HA
 rw [if_neg (by omega)] at HA
 go_enter Tryz.func50, Tryz.ntmps50
 go_wp2_with fail
 refine Calls.mono (HA.out) ?_
 rintro e w1 ⟨rfl, hk⟩
 have hs := Sx.keep (show Sx R w0 [Ass.blk y 83 (cs12 p a ((t.ph : Nat)) ((t.at_ : Nat)) (pv) (av) (t.live) (t.err) (t.on) (t.ond)), rP12 p a, rL12 p a, rH12 p a, r11O a.C p.K p.th a.yc t.cl] _ from by repeat (with_reducible first | exact HS.out | apply Sx.alloc | apply Sx.drewN | apply Sx.drew)) hk
 clear HS
 have HS := hid (show Sx R w0 [Ass.blk y 83 (cs12 p a ((t.ph : Nat)) ((t.at_ : Nat)) (pv) (av) (t.live) (t.err) (t.on) (t.ond)), rP12 p a, rL12 p a, rH12 p a, r11O a.C p.K p.th a.yc t.cl] w1 from hs)
 clear hs hk
 clear qy HA
 obtain ⟨_, ⟨hb, _⟩, _⟩ := Sx.get (show Sx R w0 [Ass.blk y 83 (cs12 p a ((t.ph : Nat)) ((t.at_ : Nat)) (pv) (av) (t.live) (t.err) (t.on) (t.ond)), rP12 p a, rL12 p a, rH12 p a, r11O a.C p.K p.th a.yc t.cl] w1 from (show Sx R w0 [Ass.blk y 83 (cs12 p a ((t.ph : Nat)) ((t.at_ : Nat)) (pv) (av) (t.live) (t.err) (t.on) (t.ond)), rP12 p a, rL12 p a, rH12 p a, r11O a.C p.K p.th a.yc t.cl] w1 from by repeat (with_reducible first | exact HS.out | apply Sx.alloc | apply Sx.drewN | apply Sx.drew)))
 have qy := hb.k22
 clear hb
 go_wp2_with fail
 obtain ⟨w2, hwn⟩ : ∃ v, v = (w1).setCell ⟨y, 12, none⟩ (i64 1) := ⟨_, rfl⟩
 rw [← hwn]
 have hs := hid (show Sx R w0 [Ass.blk y 83 (cs12 p a (((1 : Nat) : Int)) ((t.at_ : Nat)) (pv) (av) (t.live) (t.err) (t.on) (t.ond)), rP12 p a, rL12 p a, rH12 p a, r11O a.C p.K p.th a.yc t.cl] w2 from by rw [hwn]; exact (Sx.tr (show Sx R w0 [Ass.blk y 83 (cs12 p a ((t.ph : Nat)) ((t.at_ : Nat)) (pv) (av) (t.live) (t.err) (t.on) (t.ond)), rP12 p a, rL12 p a, rH12 p a, r11O a.C p.K p.th a.yc t.cl] _ from (show Sx R w0 [Ass.blk y 83 (cs12 p a ((t.ph : Nat)) ((t.at_ : Nat)) (pv) (av) (t.live) (t.err) (t.on) (t.ond)), rP12 p a, rL12 p a, rH12 p a, r11O a.C p.K p.th a.yc t.cl] _ from by repeat (with_reducible first | exact HS.out | apply Sx.alloc | apply Sx.drewN | apply Sx.drew))) (fun Rq hr => blk_store hr 12 (i64 1))))
 clear HS hwn
 have HS := hs
 clear hs
 clear qy
 go_wp2_with fail
 refine Calls.mono (Sx.callx (Sx.group [Ass.blk y 83 (cs12 p a (((1 : Nat) : Int)) ((t.at_ : Nat)) (pv) (av) (t.live) (t.err) (t.on) (t.ond)), rP12 p a, rL12 p a, rH12 p a] (l := [r11O a.C p.K p.th a.yc t.cl]) HS.out) (fun Rq hr _ => r12_pool (t := { t with ph := 1, at_ := t.at_ }) (pv := pv) (av := av) hp ha hr)) ?_
 rintro e w3 ⟨v, rfl, hs⟩
 have HS2 := hid (Sx.ungroup _ hs)
 clear hs HS
 go_wp2_with fail
 go_end0
 exact ⟨v, rfl, HS2.out⟩
set_option maxHeartbeats 2000000 in
theorem r12_pooled_bad {yp : Nat} (hb : t.po.bad = true) (h : (stars (r8A p.s p.lm p.K (p.v t.at_) p.n p.u yp t.po :: [Ass.blk y 83 (cs12 p a ((t.ph : Nat)) ((t.at_ : Nat)) (ptr yp) (av) (t.live) (t.err) (t.on) (t.ond)), rP12 p a, rL12 p a, rH12 p a, r11O a.C p.K p.th a.yc t.cl])).At R w) :
 Calls Tryz.prog 52 #[ptr y] w fun e w' => e = .returned (.tuple #[]) ∧ Tr (stars (r8A p.s p.lm p.K (p.v t.at_) p.n p.u yp t.po :: [Ass.blk y 83 (cs12 p a (((2 : Nat) : Int)) ((t.at_ : Nat)) (ptr yp) (av) (t.live) (4) (0) ((p.v t.at_ : Int))), rP12 p a, rL12 p a, rH12 p a, r11O a.C p.K p.th a.yc t.cl])) R w w' := by
 obtain ⟨w0, hw0⟩ : ∃ v, v = w := ⟨_, rfl⟩
 rw [← hw0] at h ⊢
 have HS := hid (show Sx R w0 [r8A p.s p.lm p.K (p.v t.at_) p.n p.u yp t.po, Ass.blk y 83 (cs12 p a ((t.ph : Nat)) ((t.at_ : Nat)) (ptr yp) (av) (t.live) (t.err) (t.on) (t.ond)), rP12 p a, rL12 p a, rH12 p a, r11O a.C p.K p.th a.yc t.cl] w0 from Sx.start h)
 clear h hw0
 obtain ⟨_, ⟨hb, _⟩, _⟩ := Sx.get (show Sx R w0 [Ass.blk y 83 (cs12 p a ((t.ph : Nat)) ((t.at_ : Nat)) (ptr yp) (av) (t.live) (t.err) (t.on) (t.ond)), r8A p.s p.lm p.K (p.v t.at_) p.n p.u yp t.po, rP12 p a, rL12 p a, rH12 p a, r11O a.C p.K p.th a.yc t.cl] w0 from (Sx.pick (show Sx R w0 [r8A p.s p.lm p.K (p.v t.at_) p.n p.u yp t.po, Ass.blk y 83 (cs12 p a ((t.ph : Nat)) ((t.at_ : Nat)) (ptr yp) (av) (t.live) (t.err) (t.on) (t.ond)), rP12 p a, rL12 p a, rH12 p a, r11O a.C p.K p.th a.yc t.cl] w0 from by repeat (with_reducible first | exact HS.out | apply Sx.alloc | apply Sx.drewN | apply Sx.drew)) 1 (by simp)))
 have qy := hb.k22
 clear hb
 obtain ⟨_, ⟨Cq, ⟨e0, ⟨hcp, _⟩, _⟩, _, _⟩, _⟩ := Sx.get (show Sx R w0 [r8A p.s p.lm p.K (p.v t.at_) p.n p.u yp t.po, Ass.blk y 83 (cs12 p a ((t.ph : Nat)) ((t.at_ : Nat)) (ptr yp) (av) (t.live) (t.err) (t.on) (t.ond)), rP12 p a, rL12 p a, rH12 p a, r11O a.C p.K p.th a.yc t.cl] w0 from (show Sx R w0 [r8A p.s p.lm p.K (p.v t.at_) p.n p.u yp t.po, Ass.blk y 83 (cs12 p a ((t.ph : Nat)) ((t.at_ : Nat)) (ptr yp) (av) (t.live) (t.err) (t.on) (t.ond)), rP12 p a, rL12 p a, rH12 p a, r11O a.C p.K p.th a.yc t.cl] w0 from by repeat (with_reducible first | exact HS.out | apply Sx.alloc | apply Sx.drewN | apply Sx.drew)))
 have HA := hid (rans_any (show Blk _ yp 122 [_, _, _, _, _, _, _, _, _, _, _, _, _, _, _, i64 (if t.po.bad = true then 4 else 0), i64 0, .bool false, i64 (if t.po.bad = true then (p.v t.at_ : Int) else 0)] from hcp))
 clear hcp
 rw [if_pos hb, if_pos hb] at HA
 go_enter Tryz.func52, Tryz.ntmps52
 go_wp2_with fail
 refine Calls.mono (HA.out) ?_
 rintro e w1 ⟨rfl, hk⟩
 have hs := Sx.keep (show Sx R w0 [r8A p.s p.lm p.K (p.v t.at_) p.n p.u yp t.po, Ass.blk y 83 (cs12 p a ((t.ph : Nat)) ((t.at_ : Nat)) (ptr yp) (av) (t.live) (t.err) (t.on) (t.ond)), rP12 p a, rL12 p a, rH12 p a, r11O a.C p.K p.th a.yc t.cl] _ from by repeat (with_reducible first | exact HS.out | apply Sx.alloc | apply Sx.drewN | apply Sx.drew)) hk
 clear HS
 have HS := hid (show Sx R w0 [r8A p.s p.lm p.K (p.v t.at_) p.n p.u yp t.po, Ass.blk y 83 (cs12 p a ((t.ph : Nat)) ((t.at_ : Nat)) (ptr yp) (av) (t.live) (t.err) (t.on) (t.ond)), rP12 p a, rL12 p a, rH12 p a, r11O a.C p.K p.th a.yc t.cl] w1 from hs)
 clear hs hk
 clear qy HA
 obtain ⟨_, ⟨hb, _⟩, _⟩ := Sx.get (show Sx R w0 [Ass.blk y 83 (cs12 p a ((t.ph : Nat)) ((t.at_ : Nat)) (ptr yp) (av) (t.live) (t.err) (t.on) (t.ond)), r8A p.s p.lm p.K (p.v t.at_) p.n p.u yp t.po, rP12 p a, rL12 p a, rH12 p a, r11O a.C p.K p.th a.yc t.cl] w1 from (Sx.pick (show Sx R w0 [r8A p.s p.lm p.K (p.v t.at_) p.n p.u yp t.po, Ass.blk y 83 (cs12 p a ((t.ph : Nat)) ((t.at_ : Nat)) (ptr yp) (av) (t.live) (t.err) (t.on) (t.ond)), rP12 p a, rL12 p a, rH12 p a, r11O a.C p.K p.th a.yc t.cl] w1 from by repeat (with_reducible first | exact HS.out | apply Sx.alloc | apply Sx.drewN | apply Sx.drew)) 1 (by simp)))
 have qy := hb.k22
 clear hb
 obtain ⟨_, ⟨Cq, ⟨e0, ⟨hcp, _⟩, _⟩, _, _⟩, _⟩ := Sx.get (show Sx R w0 [r8A p.s p.lm p.K (p.v t.at_) p.n p.u yp t.po, Ass.blk y 83 (cs12 p a ((t.ph : Nat)) ((t.at_ : Nat)) (ptr yp) (av) (t.live) (t.err) (t.on) (t.ond)), rP12 p a, rL12 p a, rH12 p a, r11O a.C p.K p.th a.yc t.cl] w1 from (show Sx R w0 [r8A p.s p.lm p.K (p.v t.at_) p.n p.u yp t.po, Ass.blk y 83 (cs12 p a ((t.ph : Nat)) ((t.at_ : Nat)) (ptr yp) (av) (t.live) (t.err) (t.on) (t.ond)), rP12 p a, rL12 p a, rH12 p a, r11O a.C p.K p.th a.yc t.cl] w1 from by repeat (with_reducible first | exact HS.out | apply Sx.alloc | apply Sx.drewN | apply Sx.drew)))
 have HA := hid (rans_any (show Blk _ yp 122 [_, _, _, _, _, _, _, _, _, _, _, _, _, _, _, i64 (if t.po.bad = true then 4 else 0), i64 0, .bool false, i64 (if t.po.bad = true then (p.v t.at_ : Int) else 0)] from hcp))
 clear hcp
 rw [if_pos hb, if_pos hb] at HA
 go_wp2_with fail
 refine Calls.mono (HA.out) ?_
 rintro e w2 ⟨rfl, hk⟩
 have hs := Sx.keep (show Sx R w0 [r8A p.s p.lm p.K (p.v t.at_) p.n p.u yp t.po, Ass.blk y 83 (cs12 p a ((t.ph : Nat)) ((t.at_ : Nat)) (ptr yp) (av) (t.live) (t.err) (t.on) (t.ond)), rP12 p a, rL12 p a, rH12 p a, r11O a.C p.K p.th a.yc t.cl] _ from by repeat (with_reducible first | exact HS.out | apply Sx.alloc | apply Sx.drewN | apply Sx.drew)) hk
 clear HS
 have HS := hid (show Sx R w0 [r8A p.s p.lm p.K (p.v t.at_) p.n p.u yp t.po, Ass.blk y 83 (cs12 p a ((t.ph : Nat)) ((t.at_ : Nat)) (ptr yp) (av) (t.live) (t.err) (t.on) (t.ond)), rP12 p a, rL12 p a, rH12 p a, r11O a.C p.K p.th a.yc t.cl] w2 from hs)
 clear hs hk
 clear qy HA
 obtain ⟨_, ⟨hb, _⟩, _⟩ := Sx.get (show Sx R w0 [Ass.blk y 83 (cs12 p a ((t.ph : Nat)) ((t.at_ : Nat)) (ptr yp) (av) (t.live) (t.err) (t.on) (t.ond)), r8A p.s p.lm p.K (p.v t.at_) p.n p.u yp t.po, rP12 p a, rL12 p a, rH12 p a, r11O a.C p.K p.th a.yc t.cl] w2 from (Sx.pick (show Sx R w0 [r8A p.s p.lm p.K (p.v t.at_) p.n p.u yp t.po, Ass.blk y 83 (cs12 p a ((t.ph : Nat)) ((t.at_ : Nat)) (ptr yp) (av) (t.live) (t.err) (t.on) (t.ond)), rP12 p a, rL12 p a, rH12 p a, r11O a.C p.K p.th a.yc t.cl] w2 from by repeat (with_reducible first | exact HS.out | apply Sx.alloc | apply Sx.drewN | apply Sx.drew)) 1 (by simp)))
 have qy := hb.k22
 clear hb
 go_wp2_with fail
 (try simp only [Exit.inBlock, Exit.then])
 refine bodyPost_ret (results_none rfl _ _ _) rfl ?_
 exact ⟨rfl, Sx.pick (show Sx R w0 [Ass.blk y 83 (cs12 p a (((2 : Nat) : Int)) ((t.at_ : Nat)) (ptr yp) (av) (t.live) (4) (0) ((p.v t.at_ : Int))), r8A p.s p.lm p.K (p.v t.at_) p.n p.u yp t.po, rP12 p a, rL12 p a, rH12 p a, r11O a.C p.K p.th a.yc t.cl] _ from (Sx.tr (Sx.tr (Sx.tr (Sx.tr (Sx.tr (show Sx R w0 [Ass.blk y 83 (cs12 p a ((t.ph : Nat)) ((t.at_ : Nat)) (ptr yp) (av) (t.live) (t.err) (t.on) (t.ond)), r8A p.s p.lm p.K (p.v t.at_) p.n p.u yp t.po, rP12 p a, rL12 p a, rH12 p a, r11O a.C p.K p.th a.yc t.cl] _ from (Sx.pick (show Sx R w0 [r8A p.s p.lm p.K (p.v t.at_) p.n p.u yp t.po, Ass.blk y 83 (cs12 p a ((t.ph : Nat)) ((t.at_ : Nat)) (ptr yp) (av) (t.live) (t.err) (t.on) (t.ond)), rP12 p a, rL12 p a, rH12 p a, r11O a.C p.K p.th a.yc t.cl] _ from by repeat (with_reducible first | exact HS.out | apply Sx.alloc | apply Sx.drewN | apply Sx.drew)) 1 (by simp))) (fun Rq hr => blk_store hr 18 (i64 4))) (fun Rq hr => blk_store hr 19 (i64 0))) (fun Rq hr => blk_store hr 20 (.bool false))) (fun Rq hr => blk_store hr 21 (i64 (p.v t.at_ : Int)))) (fun Rq hr => blk_store hr 12 (i64 2)))) 1 (by simp)⟩
set_option maxHeartbeats 2000000 in
theorem r12_pooled_last {yp : Nat} (hp : P12OK p) (hb : t.po.bad = false) (hl : t.at_ + 1 = p.path.length) (h : (stars (r8A p.s p.lm p.K (p.v t.at_) p.n p.u yp t.po :: [Ass.blk y 83 (cs12 p a ((t.ph : Nat)) ((t.at_ : Nat)) (ptr yp) (av) (t.live) (t.err) (t.on) (t.ond)), rP12 p a, rL12 p a, rH12 p a, r11O a.C p.K p.th a.yc t.cl])).At R w) :
 Calls Tryz.prog 52 #[ptr y] w fun e w' => e = .returned (.tuple #[]) ∧ Tr (stars [Ass.blk y 83 (cs12 p a (((3 : Nat) : Int)) (((t.at_ + 1 : Nat) : Int)) (ptr yp) (av) (t.live) (t.err) (t.on) (t.ond)), rP12 p a, rL12 p a, rH12 p a, r11O a.C p.K p.th a.yc t.cl]) R w w' := by
 have hh := hp.h1
 have hab : t.at_ ≤ 12 := by omega
 obtain ⟨w0, hw0⟩ : ∃ v, v = w := ⟨_, rfl⟩
 rw [← hw0] at h ⊢
 have HS := hid (show Sx R w0 [r8A p.s p.lm p.K (p.v t.at_) p.n p.u yp t.po, Ass.blk y 83 (cs12 p a ((t.ph : Nat)) ((t.at_ : Nat)) (ptr yp) (av) (t.live) (t.err) (t.on) (t.ond)), rP12 p a, rL12 p a, rH12 p a, r11O a.C p.K p.th a.yc t.cl] w0 from Sx.start h)
 clear h hw0
 obtain ⟨_, ⟨hb, _⟩, _⟩ := Sx.get (show Sx R w0 [Ass.blk y 83 (cs12 p a ((t.ph : Nat)) ((t.at_ : Nat)) (ptr yp) (av) (t.live) (t.err) (t.on) (t.ond)), r8A p.s p.lm p.K (p.v t.at_) p.n p.u yp t.po, rP12 p a, rL12 p a, rH12 p a, r11O a.C p.K p.th a.yc t.cl] w0 from (Sx.pick (show Sx R w0 [r8A p.s p.lm p.K (p.v t.at_) p.n p.u yp t.po, Ass.blk y 83 (cs12 p a ((t.ph : Nat)) ((t.at_ : Nat)) (ptr yp) (av) (t.live) (t.err) (t.on) (t.ond)), rP12 p a, rL12 p a, rH12 p a, r11O a.C p.K p.th a.yc t.cl] w0 from by repeat (with_reducible first | exact HS.out | apply Sx.alloc | apply Sx.drewN | apply Sx.drew)) 1 (by simp)))
 have qy := hb.k22
 clear hb
 obtain ⟨_, ⟨Cq, ⟨e0, ⟨hcp, _⟩, _⟩, _, _⟩, _⟩ := Sx.get (show Sx R w0 [r8A p.s p.lm p.K (p.v t.at_) p.n p.u yp t.po, Ass.blk y 83 (cs12 p a ((t.ph : Nat)) ((t.at_ : Nat)) (ptr yp) (av) (t.live) (t.err) (t.on) (t.ond)), rP12 p a, rL12 p a, rH12 p a, r11O a.C p.K p.th a.yc t.cl] w0 from (show Sx R w0 [r8A p.s p.lm p.K (p.v t.at_) p.n p.u yp t.po, Ass.blk y 83 (cs12 p a ((t.ph : Nat)) ((t.at_ : Nat)) (ptr yp) (av) (t.live) (t.err) (t.on) (t.ond)), rP12 p a, rL12 p a, rH12 p a, r11O a.C p.K p.th a.yc t.cl] w0 from by repeat (with_reducible first | exact HS.out | apply Sx.alloc | apply Sx.drewN | apply Sx.drew)))
 have HA := hid (rans_any (show Blk _ yp 122 [_, _, _, _, _, _, _, _, _, _, _, _, _, _, _, i64 (if t.po.bad = true then 4 else 0), i64 0, .bool false, i64 (if t.po.bad = true then (p.v t.at_ : Int) else 0)] from hcp))
 clear hcp
 have HL := hid hl
 clear hl
 rw [if_neg (by simp [hb]), if_neg (by simp [hb])] at HA
 obtain ⟨i1, hi1⟩ : ∃ i, i = t.at_ + 1 := ⟨_, rfl⟩
 first | rw [← hi1] at hl ⊢ | (have hl := HL.out; rw [← hi1] at hl ⊢; have HL := hid hl; clear hl)
 have y1 : IntKind.i64.wrap ((t.at_ : Int) + 1) = (i1 : Int) := by rw [IntWalk.i64_in _ (by omega)]; omega
 have HI1 := hid hi1
 clear hi1
 go_enter Tryz.func52, Tryz.ntmps52
 go_wp2_with fail
 refine Calls.mono (HA.out) ?_
 rintro e w1 ⟨rfl, hk⟩
 have hs := Sx.keep (show Sx R w0 [r8A p.s p.lm p.K (p.v t.at_) p.n p.u yp t.po, Ass.blk y 83 (cs12 p a ((t.ph : Nat)) ((t.at_ : Nat)) (ptr yp) (av) (t.live) (t.err) (t.on) (t.ond)), rP12 p a, rL12 p a, rH12 p a, r11O a.C p.K p.th a.yc t.cl] _ from by repeat (with_reducible first | exact HS.out | apply Sx.alloc | apply Sx.drewN | apply Sx.drew)) hk
 clear HS
 have HS := hid (show Sx R w0 [r8A p.s p.lm p.K (p.v t.at_) p.n p.u yp t.po, Ass.blk y 83 (cs12 p a ((t.ph : Nat)) ((t.at_ : Nat)) (ptr yp) (av) (t.live) (t.err) (t.on) (t.ond)), rP12 p a, rL12 p a, rH12 p a, r11O a.C p.K p.th a.yc t.cl] w1 from hs)
 clear hs hk
 clear qy HA
 obtain ⟨_, ⟨hb, _⟩, _⟩ := Sx.get (show Sx R w0 [Ass.blk y 83 (cs12 p a ((t.ph : Nat)) ((t.at_ : Nat)) (ptr yp) (av) (t.live) (t.err) (t.on) (t.ond)), r8A p.s p.lm p.K (p.v t.at_) p.n p.u yp t.po, rP12 p a, rL12 p a, rH12 p a, r11O a.C p.K p.th a.yc t.cl] w1 from (Sx.pick (show Sx R w0 [r8A p.s p.lm p.K (p.v t.at_) p.n p.u yp t.po, Ass.blk y 83 (cs12 p a ((t.ph : Nat)) ((t.at_ : Nat)) (ptr yp) (av) (t.live) (t.err) (t.on) (t.ond)), rP12 p a, rL12 p a, rH12 p a, r11O a.C p.K p.th a.yc t.cl] w1 from by repeat (with_reducible first | exact HS.out | apply Sx.alloc | apply Sx.drewN | apply Sx.drew)) 1 (by simp)))
 have qy := hb.k22
 clear hb
 go_upto_region 4 with fail
 obtain ⟨w2, hwn⟩ : ∃ v, v = (w1).setCell ⟨y, 13, none⟩ (i64 ((i1 : Nat) : Int)) := ⟨_, rfl⟩
 rw [← hwn]
 have hs := hid (show Sx R w0 [Ass.blk y 83 (cs12 p a ((t.ph : Nat)) (((i1 : Nat) : Int)) (ptr yp) (av) (t.live) (t.err) (t.on) (t.ond)), r8A p.s p.lm p.K (p.v t.at_) p.n p.u yp t.po, rP12 p a, rL12 p a, rH12 p a, r11O a.C p.K p.th a.yc t.cl] w2 from by rw [hwn]; exact (Sx.tr (show Sx R w0 [Ass.blk y 83 (cs12 p a ((t.ph : Nat)) ((t.at_ : Nat)) (ptr yp) (av) (t.live) (t.err) (t.on) (t.ond)), r8A p.s p.lm p.K (p.v t.at_) p.n p.u yp t.po, rP12 p a, rL12 p a, rH12 p a, r11O a.C p.K p.th a.yc t.cl] _ from (Sx.pick (show Sx R w0 [r8A p.s p.lm p.K (p.v t.at_) p.n p.u yp t.po, Ass.blk y 83 (cs12 p a ((t.ph : Nat)) ((t.at_ : Nat)) (ptr yp) (av) (t.live) (t.err) (t.on) (t.ond)), rP12 p a, rL12 p a, rH12 p a, r11O a.C p.K p.th a.yc t.cl] _ from by repeat (with_reducible first | exact HS.out | apply Sx.alloc | apply Sx.drewN | apply Sx.drew)) 1 (by simp))) (fun Rq hr => blk_store hr 13 (i64 ((i1 : Nat) : Int)))))
 clear HS hwn
 have HS := hs
 clear hs
 clear qy
 obtain ⟨_, ⟨hb, _⟩, _⟩ := Sx.get (show Sx R w0 [Ass.blk y 83 (cs12 p a ((t.ph : Nat)) (((i1 : Nat) : Int)) (ptr yp) (av) (t.live) (t.err) (t.on) (t.ond)), r8A p.s p.lm p.K (p.v t.at_) p.n p.u yp t.po, rP12 p a, rL12 p a, rH12 p a, r11O a.C p.K p.th a.yc t.cl] w2 from (show Sx R w0 [Ass.blk y 83 (cs12 p a ((t.ph : Nat)) (((i1 : Nat) : Int)) (ptr yp) (av) (t.live) (t.err) (t.on) (t.ond)), r8A p.s p.lm p.K (p.v t.at_) p.n p.u yp t.po, rP12 p a, rL12 p a, rH12 p a, r11O a.C p.K p.th a.yc t.cl] w2 from by repeat (with_reducible first | exact HS.out | apply Sx.alloc | apply Sx.drewN | apply Sx.drew)))
 have qy := hb.k22
 clear hb
 have g1 : ((i1 : Int) == (p.path.length : Int)) = true := by rw [HL.out]; simp
 go_quiet (fail)
 obtain ⟨w3, hwn⟩ : ∃ v, v = w2.drewN nq := ⟨_, rfl⟩
 rw [← hwn]
 have hs := hid (show Sx R w0 [Ass.blk y 83 (cs12 p a ((t.ph : Nat)) (((i1 : Nat) : Int)) (ptr yp) (av) (t.live) (t.err) (t.on) (t.ond)), r8A p.s p.lm p.K (p.v t.at_) p.n p.u yp t.po, rP12 p a, rL12 p a, rH12 p a, r11O a.C p.K p.th a.yc t.cl] w3 from by rw [hwn]; exact HS.out.drewN nq)
 clear HS hwn qy
 have HS := hs
 clear hs
 obtain ⟨_, ⟨hb, _⟩, _⟩ := Sx.get (show Sx R w0 [Ass.blk y 83 (cs12 p a ((t.ph : Nat)) (((i1 : Nat) : Int)) (ptr yp) (av) (t.live) (t.err) (t.on) (t.ond)), r8A p.s p.lm p.K (p.v t.at_) p.n p.u yp t.po, rP12 p a, rL12 p a, rH12 p a, r11O a.C p.K p.th a.yc t.cl] w3 from (show Sx R w0 [Ass.blk y 83 (cs12 p a ((t.ph : Nat)) (((i1 : Nat) : Int)) (ptr yp) (av) (t.live) (t.err) (t.on) (t.ond)), r8A p.s p.lm p.K (p.v t.at_) p.n p.u yp t.po, rP12 p a, rL12 p a, rH12 p a, r11O a.C p.K p.th a.yc t.cl] w3 from by repeat (with_reducible first | exact HS.out | apply Sx.alloc | apply Sx.drewN | apply Sx.drew)))
 have qy := hb.k22
 clear hb
 go_wp2_with fail
 (try simp only [Exit.inBlock, Exit.then])
 refine bodyPost_ret (results_none rfl _ _ _) rfl ?_
 exact ⟨rfl, Sx.drop (Sx.pick (show Sx R w0 [Ass.blk y 83 (cs12 p a (((3 : Nat) : Int)) (((i1 : Nat) : Int)) (ptr yp) (av) (t.live) (t.err) (t.on) (t.ond)), r8A p.s p.lm p.K (p.v t.at_) p.n p.u yp t.po, rP12 p a, rL12 p a, rH12 p a, r11O a.C p.K p.th a.yc t.cl] _ from (Sx.tr (show Sx R w0 [Ass.blk y 83 (cs12 p a ((t.ph : Nat)) (((i1 : Nat) : Int)) (ptr yp) (av) (t.live) (t.err) (t.on) (t.ond)), r8A p.s p.lm p.K (p.v t.at_) p.n p.u yp t.po, rP12 p a, rL12 p a, rH12 p a, r11O a.C p.K p.th a.yc t.cl] _ from (show Sx R w0 [Ass.blk y 83 (cs12 p a ((t.ph : Nat)) (((i1 : Nat) : Int)) (ptr yp) (av) (t.live) (t.err) (t.on) (t.ond)), r8A p.s p.lm p.K (p.v t.at_) p.n p.u yp t.po, rP12 p a, rL12 p a, rH12 p a, r11O a.C p.K p.th a.yc t.cl] _ from by repeat (with_reducible first | exact HS.out | apply Sx.alloc | apply Sx.drewN | apply Sx.drew))) (fun Rq hr => blk_store hr 12 (i64 3)))) 1 (by simp))⟩
set_option maxHeartbeats 2000000 in
theorem r12_pooled_next {yp : Nat} (hp : P12OK p) (hb : t.po.bad = false) (hl : t.at_ + 1 < p.path.length) (h : (stars (r8A p.s p.lm p.K (p.v t.at_) p.n p.u yp t.po :: [Ass.blk y 83 (cs12 p a ((t.ph : Nat)) ((t.at_ : Nat)) (ptr yp) (av) (t.live) (t.err) (t.on) (t.ond)), rP12 p a, rL12 p a, rH12 p a, r11O a.C p.K p.th a.yc t.cl])).At R w) :
 Calls Tryz.prog 52 #[ptr y] w fun e w' => ∃ v : Value, e = .returned (.tuple #[]) ∧ Tr (stars ((Ass.ex fun y' : Nat => (r8A p.s p.lm p.K (p.v (t.at_ + 1)) p.n p.u y' (po0)).with_ (v = ptr y')) :: [Ass.blk y 83 (cs12 p a ((t.ph : Nat)) (((t.at_ + 1 : Nat) : Int)) (v) (av) (t.live) (t.err) (t.on) (t.ond)), rP12 p a, rL12 p a, rH12 p a, r11O a.C p.K p.th a.yc t.cl])) R w w' := by
 have hh := hp.h1
 have hab : t.at_ ≤ 12 := by omega
 obtain ⟨w0, hw0⟩ : ∃ v, v = w := ⟨_, rfl⟩
 rw [← hw0] at h ⊢
 have HS := hid (show Sx R w0 [r8A p.s p.lm p.K (p.v t.at_) p.n p.u yp t.po, Ass.blk y 83 (cs12 p a ((t.ph : Nat)) ((t.at_ : Nat)) (ptr yp) (av) (t.live) (t.err) (t.on) (t.ond)), rP12 p a, rL12 p a, rH12 p a, r11O a.C p.K p.th a.yc t.cl] w0 from Sx.start h)
 clear h hw0
 obtain ⟨_, ⟨hb, _⟩, _⟩ := Sx.get (show Sx R w0 [Ass.blk y 83 (cs12 p a ((t.ph : Nat)) ((t.at_ : Nat)) (ptr yp) (av) (t.live) (t.err) (t.on) (t.ond)), r8A p.s p.lm p.K (p.v t.at_) p.n p.u yp t.po, rP12 p a, rL12 p a, rH12 p a, r11O a.C p.K p.th a.yc t.cl] w0 from (Sx.pick (show Sx R w0 [r8A p.s p.lm p.K (p.v t.at_) p.n p.u yp t.po, Ass.blk y 83 (cs12 p a ((t.ph : Nat)) ((t.at_ : Nat)) (ptr yp) (av) (t.live) (t.err) (t.on) (t.ond)), rP12 p a, rL12 p a, rH12 p a, r11O a.C p.K p.th a.yc t.cl] w0 from by repeat (with_reducible first | exact HS.out | apply Sx.alloc | apply Sx.drewN | apply Sx.drew)) 1 (by simp)))
 have qy := hb.k22
 clear hb
 obtain ⟨_, ⟨Cq, ⟨e0, ⟨hcp, _⟩, _⟩, _, _⟩, _⟩ := Sx.get (show Sx R w0 [r8A p.s p.lm p.K (p.v t.at_) p.n p.u yp t.po, Ass.blk y 83 (cs12 p a ((t.ph : Nat)) ((t.at_ : Nat)) (ptr yp) (av) (t.live) (t.err) (t.on) (t.ond)), rP12 p a, rL12 p a, rH12 p a, r11O a.C p.K p.th a.yc t.cl] w0 from (show Sx R w0 [r8A p.s p.lm p.K (p.v t.at_) p.n p.u yp t.po, Ass.blk y 83 (cs12 p a ((t.ph : Nat)) ((t.at_ : Nat)) (ptr yp) (av) (t.live) (t.err) (t.on) (t.ond)), rP12 p a, rL12 p a, rH12 p a, r11O a.C p.K p.th a.yc t.cl] w0 from by repeat (with_reducible first | exact HS.out | apply Sx.alloc | apply Sx.drewN | apply Sx.drew)))
 have HA := hid (rans_any (show Blk _ yp 122 [_, _, _, _, _, _, _, _, _, _, _, _, _, _, _, i64 (if t.po.bad = true then 4 else 0), i64 0, .bool false, i64 (if t.po.bad = true then (p.v t.at_ : Int) else 0)] from hcp))
 clear hcp
 have HL := hid hl
 skip
 rw [if_neg (by simp [hb]), if_neg (by simp [hb])] at HA
 obtain ⟨i1, hi1⟩ : ∃ i, i = t.at_ + 1 := ⟨_, rfl⟩
 first | rw [← hi1] at hl ⊢ | (have hl := HL.out; rw [← hi1] at hl ⊢; have HL := hid hl; clear hl)
 have y1 : IntKind.i64.wrap ((t.at_ : Int) + 1) = (i1 : Int) := by rw [IntWalk.i64_in _ (by omega)]; omega
 have HI1 := hid hi1
 clear hi1
 go_enter Tryz.func52, Tryz.ntmps52
 go_wp2_with fail
 refine Calls.mono (HA.out) ?_
 rintro e w1 ⟨rfl, hk⟩
 have hs := Sx.keep (show Sx R w0 [r8A p.s p.lm p.K (p.v t.at_) p.n p.u yp t.po, Ass.blk y 83 (cs12 p a ((t.ph : Nat)) ((t.at_ : Nat)) (ptr yp) (av) (t.live) (t.err) (t.on) (t.ond)), rP12 p a, rL12 p a, rH12 p a, r11O a.C p.K p.th a.yc t.cl] _ from by repeat (with_reducible first | exact HS.out | apply Sx.alloc | apply Sx.drewN | apply Sx.drew)) hk
 clear HS
 have HS := hid (show Sx R w0 [r8A p.s p.lm p.K (p.v t.at_) p.n p.u yp t.po, Ass.blk y 83 (cs12 p a ((t.ph : Nat)) ((t.at_ : Nat)) (ptr yp) (av) (t.live) (t.err) (t.on) (t.ond)), rP12 p a, rL12 p a, rH12 p a, r11O a.C p.K p.th a.yc t.cl] w1 from hs)
 clear hs hk
 clear qy HA
 obtain ⟨_, ⟨hb, _⟩, _⟩ := Sx.get (show Sx R w0 [Ass.blk y 83 (cs12 p a ((t.ph : Nat)) ((t.at_ : Nat)) (ptr yp) (av) (t.live) (t.err) (t.on) (t.ond)), r8A p.s p.lm p.K (p.v t.at_) p.n p.u yp t.po, rP12 p a, rL12 p a, rH12 p a, r11O a.C p.K p.th a.yc t.cl] w1 from (Sx.pick (show Sx R w0 [r8A p.s p.lm p.K (p.v t.at_) p.n p.u yp t.po, Ass.blk y 83 (cs12 p a ((t.ph : Nat)) ((t.at_ : Nat)) (ptr yp) (av) (t.live) (t.err) (t.on) (t.ond)), rP12 p a, rL12 p a, rH12 p a, r11O a.C p.K p.th a.yc t.cl] w1 from by repeat (with_reducible first | exact HS.out | apply Sx.alloc | apply Sx.drewN | apply Sx.drew)) 1 (by simp)))
 have qy := hb.k22
 clear hb
 go_upto_region 4 with fail
 obtain ⟨w2, hwn⟩ : ∃ v, v = (w1).setCell ⟨y, 13, none⟩ (i64 ((i1 : Nat) : Int)) := ⟨_, rfl⟩
 rw [← hwn]
 have hs := hid (show Sx R w0 [Ass.blk y 83 (cs12 p a ((t.ph : Nat)) (((i1 : Nat) : Int)) (ptr yp) (av) (t.live) (t.err) (t.on) (t.ond)), r8A p.s p.lm p.K (p.v t.at_) p.n p.u yp t.po, rP12 p a, rL12 p a, rH12 p a, r11O a.C p.K p.th a.yc t.cl] w2 from by rw [hwn]; exact (Sx.tr (show Sx R w0 [Ass.blk y 83 (cs12 p a ((t.ph : Nat)) ((t.at_ : Nat)) (ptr yp) (av) (t.live) (t.err) (t.on) (t.ond)), r8A p.s p.lm p.K (p.v t.at_) p.n p.u yp t.po, rP12 p a, rL12 p a, rH12 p a, r11O a.C p.K p.th a.yc t.cl] _ from (Sx.pick (show Sx R w0 [r8A p.s p.lm p.K (p.v t.at_) p.n p.u yp t.po, Ass.blk y 83 (cs12 p a ((t.ph : Nat)) ((t.at_ : Nat)) (ptr yp) (av) (t.live) (t.err) (t.on) (t.ond)), rP12 p a, rL12 p a, rH12 p a, r11O a.C p.K p.th a.yc t.cl] _ from by repeat (with_reducible first | exact HS.out | apply Sx.alloc | apply Sx.drewN | apply Sx.drew)) 1 (by simp))) (fun Rq hr => blk_store hr 13 (i64 ((i1 : Nat) : Int)))))
 clear HS hwn
 have HS := hs
 clear hs
 clear qy
 obtain ⟨_, ⟨hb, _⟩, _⟩ := Sx.get (show Sx R w0 [Ass.blk y 83 (cs12 p a ((t.ph : Nat)) (((i1 : Nat) : Int)) (ptr yp) (av) (t.live) (t.err) (t.on) (t.ond)), r8A p.s p.lm p.K (p.v t.at_) p.n p.u yp t.po, rP12 p a, rL12 p a, rH12 p a, r11O a.C p.K p.th a.yc t.cl] w2 from (show Sx R w0 [Ass.blk y 83 (cs12 p a ((t.ph : Nat)) (((i1 : Nat) : Int)) (ptr yp) (av) (t.live) (t.err) (t.on) (t.ond)), r8A p.s p.lm p.K (p.v t.at_) p.n p.u yp t.po, rP12 p a, rL12 p a, rH12 p a, r11O a.C p.K p.th a.yc t.cl] w2 from by repeat (with_reducible first | exact HS.out | apply Sx.alloc | apply Sx.drewN | apply Sx.drew)))
 have qy := hb.k22
 clear hb
 have g1 : ((i1 : Int) == (p.path.length : Int)) = false := beq_eq_false_iff_ne.2 (by omega)
 go_quiet (fail)
 obtain ⟨w3, hwn⟩ : ∃ v, v = w2.drewN nq := ⟨_, rfl⟩
 rw [← hwn]
 have hs := hid (show Sx R w0 [Ass.blk y 83 (cs12 p a ((t.ph : Nat)) (((i1 : Nat) : Int)) (ptr yp) (av) (t.live) (t.err) (t.on) (t.ond)), r8A p.s p.lm p.K (p.v t.at_) p.n p.u yp t.po, rP12 p a, rL12 p a, rH12 p a, r11O a.C p.K p.th a.yc t.cl] w3 from by rw [hwn]; exact HS.out.drewN nq)
 clear HS hwn qy
 have HS := hs
 clear hs
 obtain ⟨_, ⟨hb, _⟩, _⟩ := Sx.get (show Sx R w0 [Ass.blk y 83 (cs12 p a ((t.ph : Nat)) (((i1 : Nat) : Int)) (ptr yp) (av) (t.live) (t.err) (t.on) (t.ond)), r8A p.s p.lm p.K (p.v t.at_) p.n p.u yp t.po, rP12 p a, rL12 p a, rH12 p a, r11O a.C p.K p.th a.yc t.cl] w3 from (show Sx R w0 [Ass.blk y 83 (cs12 p a ((t.ph : Nat)) (((i1 : Nat) : Int)) (ptr yp) (av) (t.live) (t.err) (t.on) (t.ond)), r8A p.s p.lm p.K (p.v t.at_) p.n p.u yp t.po, rP12 p a, rL12 p a, rH12 p a, r11O a.C p.K p.th a.yc t.cl] w3 from by repeat (with_reducible first | exact HS.out | apply Sx.alloc | apply Sx.drewN | apply Sx.drew)))
 have qy := hb.k22
 clear hb
 clear qy g1
 have hs := Sx.drop (show Sx R w0 [r8A p.s p.lm p.K (p.v t.at_) p.n p.u yp t.po, Ass.blk y 83 (cs12 p a ((t.ph : Nat)) (((i1 : Nat) : Int)) (ptr yp) (av) (t.live) (t.err) (t.on) (t.ond)), rP12 p a, rL12 p a, rH12 p a, r11O a.C p.K p.th a.yc t.cl] w3 from (Sx.pick (show Sx R w0 [Ass.blk y 83 (cs12 p a ((t.ph : Nat)) (((i1 : Nat) : Int)) (ptr yp) (av) (t.live) (t.err) (t.on) (t.ond)), r8A p.s p.lm p.K (p.v t.at_) p.n p.u yp t.po, rP12 p a, rL12 p a, rH12 p a, r11O a.C p.K p.th a.yc t.cl] w3 from by repeat (with_reducible first | exact HS.out | apply Sx.alloc | apply Sx.drewN | apply Sx.drew)) 1 (by simp)))
 clear HS
 have HS := hid hs
 clear hs
 have hs := (show Sx R w0 [Ass.blk y 83 (cs12 p a ((t.ph : Nat)) (((i1 : Nat) : Int)) (ptr yp) (av) (t.live) (t.err) (t.on) (t.ond)), rP12 p a, rL12 p a, rH12 p a, r11O a.C p.K p.th a.yc t.cl] w3 from (Sx.pick (Sx.pick (Sx.pick (Sx.pick (show Sx R w0 [Ass.blk y 83 (cs12 p a ((t.ph : Nat)) (((i1 : Nat) : Int)) (ptr yp) (av) (t.live) (t.err) (t.on) (t.ond)), rP12 p a, rL12 p a, rH12 p a, r11O a.C p.K p.th a.yc t.cl] w3 from by repeat (with_reducible first | exact HS.out | apply Sx.alloc | apply Sx.drewN | apply Sx.drew)) 3 (by simp)) 3 (by simp)) 3 (by simp)) 3 (by simp)))
 clear HS
 have HS := hid hs
 clear hs
 go_wp2_with fail
 refine Calls.mono (Sx.callx (Sx.group [Ass.blk y 83 (cs12 p a ((t.ph : Nat)) (((i1 : Nat) : Int)) (ptr yp) (av) (t.live) (t.err) (t.on) (t.ond)), rP12 p a, rL12 p a, rH12 p a] (l := [r11O a.C p.K p.th a.yc t.cl]) HS.out) (fun Rq hr _ => r12_pool (t := { t with at_ := i1 }) (pv := ptr yp) (av := av) hp hl hr)) ?_
 rintro e w4 ⟨v, rfl, hs⟩
 have HS2 := hid (Sx.ungroup _ hs)
 clear hs HS
 go_wp2_with fail
 go_end0
 exact ⟨v, rfl, HS2.out⟩
end
end Go.Proofs.YthaceckccobgeaaGreat

namespace Go.Proofs.YthaceckccobgeaaGreat
open Go.RowKit
set_option linter.unusedVariables false
set_option linter.unusedSimpArgs false
set_option maxRecDepth 100000
section
variable {y : Nat} {p : P12} {t : S12} {a : Ad12} {pv av : Value} {R : Nat → Prop} {w : World}
set_option maxHeartbeats 4000000 in
theorem r12_added_more (hp : P12OK p) (hl : t.at_ + 1 < p.path.length) (h : (stars [Ass.blk y 83 (cs12 p a ((t.ph : Nat)) ((t.at_ : Nat)) (pv) (av) (t.live) (t.err) (t.on) (t.ond)), rP12 p a, rL12 p a, rH12 p a, r11O a.C p.K p.th a.yc t.cl]).At R w) :
 Calls Tryz.prog 61 #[ptr y] w fun e w' => ∃ v : Value, e = .returned (.tuple #[]) ∧ Tr (stars ((Ass.ex fun y' : Nat => (r6O (p.ct (p.v (t.at_ + 1))) p.s p.g p.n y' (ad0 p)).with_ (v = ptr y')) :: [Ass.blk y 83 (cs12 p a ((t.ph : Nat)) (((t.at_ + 1 : Nat) : Int)) (pv) (v) (t.live) (t.err) (t.on) (t.ond)), rP12 p a, rL12 p a, rH12 p a, r11O a.C p.K p.th a.yc t.cl])) R w w' := by
 have hh := hp.h1
 have hab : t.at_ ≤ 12 := by omega
 obtain ⟨w0, hw0⟩ : ∃ v, v = w := ⟨_, rfl⟩
 rw [← hw0] at h ⊢
 have HS := hid (show Sx R w0 [Ass.blk y 83 (cs12 p a ((t.ph : Nat)) ((t.at_ : Nat)) (pv) (av) (t.live) (t.err) (t.on) (t.ond)), rP12 p a, rL12 p a, rH12 p a, r11O a.C p.K p.th a.yc t.cl] w0 from Sx.start h)
 clear h hw0
 obtain ⟨_, ⟨hb, _⟩, _⟩ := Sx.get (show Sx R w0 [Ass.blk y 83 (cs12 p a ((t.ph : Nat)) ((t.at_ : Nat)) (pv) (av) (t.live) (t.err) (t.on) (t.ond)), rP12 p a, rL12 p a, rH12 p a, r11O a.C p.K p.th a.yc t.cl] w0 from (show Sx R w0 [Ass.blk y 83 (cs12 p a ((t.ph : Nat)) ((t.at_ : Nat)) (pv) (av) (t.live) (t.err) (t.on) (t.ond)), rP12 p a, rL12 p a, rH12 p a, r11O a.C p.K p.th a.yc t.cl] w0 from by repeat (with_reducible first | exact HS.out | apply Sx.alloc | apply Sx.drewN | apply Sx.drew)))
 have qy := hb.k22
 clear hb
 have HL := hid hl
 clear hl
 obtain ⟨i1, hi1⟩ : ∃ i, i = t.at_ + 1 := ⟨_, rfl⟩
 have hl := HL.out
 rw [← hi1] at hl ⊢
 have HL := hid hl
 clear hl
 have y1 : IntKind.i64.wrap ((t.at_ : Int) + 1) = (i1 : Int) := by rw [IntWalk.i64_in _ (by omega)]; omega
 have HI1 := hid hi1
 clear hi1
 go_enter Tryz.func61, Tryz.ntmps61
 go_upto_region 1 with fail
 obtain ⟨w1, hwn⟩ : ∃ v, v = (w0).setCell ⟨y, 13, none⟩ (i64 ((i1 : Nat) : Int)) := ⟨_, rfl⟩
 rw [← hwn]
 have hs := hid (show Sx R w0 [Ass.blk y 83 (cs12 p a ((t.ph : Nat)) (((i1 : Nat) : Int)) (pv) (av) (t.live) (t.err) (t.on) (t.ond)), rP12 p a, rL12 p a, rH12 p a, r11O a.C p.K p.th a.yc t.cl] w1 from by rw [hwn]; exact (Sx.tr (show Sx R w0 [Ass.blk y 83 (cs12 p a ((t.ph : Nat)) ((t.at_ : Nat)) (pv) (av) (t.live) (t.err) (t.on) (t.ond)), rP12 p a, rL12 p a, rH12 p a, r11O a.C p.K p.th a.yc t.cl] _ from (show Sx R w0 [Ass.blk y 83 (cs12 p a ((t.ph : Nat)) ((t.at_ : Nat)) (pv) (av) (t.live) (t.err) (t.on) (t.ond)), rP12 p a, rL12 p a, rH12 p a, r11O a.C p.K p.th a.yc t.cl] _ from by repeat (with_reducible first | exact HS.out | apply Sx.alloc | apply Sx.drewN | apply Sx.drew))) (fun Rq hr => blk_store hr 13 (i64 ((i1 : Nat) : Int)))))
 clear HS hwn
 have HS := hs
 clear hs
 clear qy
 obtain ⟨_, ⟨hb, _⟩, _⟩ := Sx.get (show Sx R w0 [Ass.blk y 83 (cs12 p a ((t.ph : Nat)) (((i1 : Nat) : Int)) (pv) (av) (t.live) (t.err) (t.on) (t.ond)), rP12 p a, rL12 p a, rH12 p a, r11O a.C p.K p.th a.yc t.cl] w1 from (show Sx R w0 [Ass.blk y 83 (cs12 p a ((t.ph : Nat)) (((i1 : Nat) : Int)) (pv) (av) (t.live) (t.err) (t.on) (t.ond)), rP12 p a, rL12 p a, rH12 p a, r11O a.C p.K p.th a.yc t.cl] w1 from by repeat (with_reducible first | exact HS.out | apply Sx.alloc | apply Sx.drewN | apply Sx.drew)))
 have qy := hb.k22
 clear hb
 have hl := HL.out
 have g1 : (i1 < p.path.length) = True := eq_true (by omega)
 clear hl
 go_quiet (fail)
 obtain ⟨w2, hwn⟩ : ∃ v, v = w1.drewN nq := ⟨_, rfl⟩
 rw [← hwn]
 have hs := hid (show Sx R w0 [Ass.blk y 83 (cs12 p a ((t.ph : Nat)) (((i1 : Nat) : Int)) (pv) (av) (t.live) (t.err) (t.on) (t.ond)), rP12 p a, rL12 p a, rH12 p a, r11O a.C p.K p.th a.yc t.cl] w2 from by rw [hwn]; exact HS.out.drewN nq)
 clear HS hwn qy
 have HS := hs
 clear hs
 go_upto_region 2 with fail
 have hil : i1 < p.path.length := HL.out
 clear g1 y1
 have hs8 := hp.s8
 have hvl : p.v i1 < p.P.length := hp.v1 hil
 have hp1 := hp.p1
 have ht1 := hp.t1
 have HP := hid hp
 clear hp
 apply wp_region_free (WI := NS 23 26 R w0 [Ass.blk y 83 (cs12 p a ((t.ph : Nat)) (((i1 : Nat) : Int)) (pv) (av) (t.live) (t.err) (t.on) (t.ond)), rP12 p a, rL12 p a, rH12 p a, r11O a.C p.K p.th a.yc t.cl] (fun v => Ass.ex fun y' : Nat => (r6O (p.ct (p.v i1)) p.s p.g p.n y' (ad0 p)).with_ (v = ptr y')) (fun v => [Ass.blk y 83 (((cs12 p a ((t.ph : Nat)) (((i1 : Nat) : Int)) (pv) (av) (t.live) (t.err) (t.on) (t.ond))).set 16 v), rP12 p a, rL12 p a, rH12 p a, r11O a.C p.K p.th a.yc t.cl])) (by kernel_rfl) (by kernel_rfl)
 case hob =>
  iterate 4
   apply ObligF.fixed
   case h =>
    intro S gh w1 hwi hSi hd hcl
    apply StepOk.intro
    intro K hK
    go_simp
    apply hK
    · rfl
    · conv => (lhs; whnf)
    · exact hwi.fixed (by decide)
   simp only [put_lit, put_none]
   try dsimp only [List.set_cons_succ, List.set_cons_zero]
  apply ObligF.fixed
  case h =>
   intro S gh w1 hwi hSi hd hcl
   apply StepOk.intro
   intro K hK
   have hlast : S 26 = false := by
    cases h : S 26 with
    | false => rfl
    | true => exact absurd ((hcl 26 _ rfl h) ⟨4, .phase⟩ (by simp) rfl) (by rw [hSi]; decide)
   obtain ⟨_, _, _, ⟨hby, _⟩, ⟨_, _, hrp, ⟨_, _, hrl, ⟨_, _, hrh, _⟩, _⟩, _⟩, _⟩ := hwi.at_ hlast
   have qyq := hby.k22
   go_simp
   apply hK
   · rfl
   · conv => (lhs; whnf)
   · exact hwi.fixed (by decide)
  simp only [put_lit, put_none]
  try dsimp only [List.set_cons_succ, List.set_cons_zero]
  iterate 3
   apply ObligF.fixed
   case h =>
    intro S gh w1 hwi hSi hd hcl
    apply StepOk.intro
    intro K hK
    go_simp
    apply hK
    · rfl
    · conv => (lhs; whnf)
    · exact hwi.fixed (by decide)
   simp only [put_lit, put_none]
   try dsimp only [List.set_cons_succ, List.set_cons_zero]
  apply ObligF.fixed
  case h =>
   intro S gh w1 hwi hSi hd hcl
   apply StepOk.intro
   intro K hK
   have hlast : S 26 = false := by
    cases h : S 26 with
    | false => rfl
    | true => exact absurd ((hcl 26 _ rfl h) ⟨8, .phase⟩ (by simp) rfl) (by rw [hSi]; decide)
   obtain ⟨_, _, _, ⟨hby, _⟩, ⟨_, _, hrp, ⟨_, _, hrl, ⟨_, _, hrh, _⟩, _⟩, _⟩, _⟩ := hwi.at_ hlast
   have qyq := hby.k22
   go_simp
   apply hK
   · rfl
   · conv => (lhs; whnf)
   · exact hwi.fixed (by decide)
  simp only [put_lit, put_none]
  try dsimp only [List.set_cons_succ, List.set_cons_zero]
  iterate 3
   apply ObligF.fixed
   case h =>
    intro S gh w1 hwi hSi hd hcl
    apply StepOk.intro
    intro K hK
    go_simp
    apply hK
    · rfl
    · conv => (lhs; whnf)
    · exact hwi.fixed (by decide)
   simp only [put_lit, put_none]
   try dsimp only [List.set_cons_succ, List.set_cons_zero]
  apply ObligF.fixed
  case h =>
   intro S gh w1 hwi hSi hd hcl
   apply StepOk.intro
   intro K hK
   have hlast : S 26 = false := by
    cases h : S 26 with
    | false => rfl
    | true => exact absurd ((hcl 26 _ rfl h) ⟨12, .phase⟩ (by simp) rfl) (by rw [hSi]; decide)
   obtain ⟨_, _, _, ⟨hby, _⟩, ⟨_, _, hrp, ⟨_, _, hrl, ⟨_, _, hrh, _⟩, _⟩, _⟩, _⟩ := hwi.at_ hlast
   have qyq := hby.k22
   go_simp
   apply hK
   · rfl
   · conv => (lhs; whnf)
   · exact hwi.fixed (by decide)
  simp only [put_lit, put_none]
  try dsimp only [List.set_cons_succ, List.set_cons_zero]
  apply ObligF.fixed
  case h =>
   intro S gh w1 hwi hSi hd hcl
   apply StepOk.intro
   intro K hK
   go_simp
   apply hK
   · rfl
   · conv => (lhs; whnf)
   · exact hwi.fixed (by decide)
  simp only [put_lit, put_none]
  try dsimp only [List.set_cons_succ, List.set_cons_zero]
  apply ObligF.fixed
  case h =>
   intro S gh w1 hwi hSi hd hcl
   apply StepOk.intro
   intro K hK
   have hlast : S 26 = false := by
    cases h : S 26 with
    | false => rfl
    | true => exact absurd ((hcl 26 _ rfl h) ⟨14, .phase⟩ (by simp) rfl) (by rw [hSi]; decide)
   obtain ⟨_, _, _, ⟨hby, _⟩, ⟨_, _, hrp, ⟨_, _, hrl, ⟨_, _, hrh, _⟩, _⟩, _⟩, _⟩ := hwi.at_ hlast
   have hcl := path_cell hrh (i := i1) hil
   have hcz := path_lt hrh (by omega)
   go_simp
   apply hK
   · rfl
   · conv => (lhs; whnf)
   · exact hwi.fixed (by decide)
  simp only [put_lit, put_none]
  try dsimp only [List.set_cons_succ, List.set_cons_zero]
  iterate 3
   apply ObligF.fixed
   case h =>
    intro S gh w1 hwi hSi hd hcl
    apply StepOk.intro
    intro K hK
    go_simp
    apply hK
    · rfl
    · conv => (lhs; whnf)
    · exact hwi.fixed (by decide)
   simp only [put_lit, put_none]
   try dsimp only [List.set_cons_succ, List.set_cons_zero]
  apply ObligF.fixed
  case h =>
   intro S gh w1 hwi hSi hd hcl
   apply StepOk.intro
   intro K hK
   have hlast : S 26 = false := by
    cases h : S 26 with
    | false => rfl
    | true => exact absurd ((hcl 26 _ rfl h) ⟨18, .phase⟩ (by simp) rfl) (by rw [hSi]; decide)
   obtain ⟨_, _, _, ⟨hby, _⟩, ⟨_, _, hrp, ⟨_, _, hrl, ⟨_, _, hrh, _⟩, _⟩, _⟩, _⟩ := hwi.at_ hlast
   have qyq := hby.k22
   go_simp
   apply hK
   · rfl
   · conv => (lhs; whnf)
   · exact hwi.fixed (by decide)
  simp only [put_lit, put_none]
  try dsimp only [List.set_cons_succ, List.set_cons_zero]
  iterate 3
   apply ObligF.fixed
   case h =>
    intro S gh w1 hwi hSi hd hcl
    apply StepOk.intro
    intro K hK
    go_simp
    apply hK
    · rfl
    · conv => (lhs; whnf)
    · exact hwi.fixed (by decide)
   simp only [put_lit, put_none]
   try dsimp only [List.set_cons_succ, List.set_cons_zero]
  apply ObligF.fixed
  case h =>
   intro S gh w1 hwi hSi hd hcl
   apply StepOk.intro
   intro K hK
   have hlast : S 26 = false := by
    cases h : S 26 with
    | false => rfl
    | true => exact absurd ((hcl 26 _ rfl h) ⟨22, .phase⟩ (by simp) rfl) (by rw [hSi]; decide)
   obtain ⟨_, _, _, ⟨hby, _⟩, ⟨_, _, hrp, ⟨_, _, hrl, ⟨_, _, hrh, _⟩, _⟩, _⟩, _⟩ := hwi.at_ hlast
   have qyq := hby.k22
   go_simp
   apply hK
   · rfl
   · conv => (lhs; whnf)
   · exact hwi.fixed (by decide)
  simp only [put_lit, put_none]
  try dsimp only [List.set_cons_succ, List.set_cons_zero]
  apply ObligF.free
  case h =>
   intro S gh w1 hwi hSi hd hcl
   apply StepG.intro
   intro K hK
   have hlast : S 26 = false := by
    cases h : S 26 with
    | false => rfl
    | true => exact absurd ((hcl 26 _ rfl h) ⟨23, .data⟩ (by simp) rfl) (by rw [hSi]; decide)
   obtain ⟨_, _, _, ⟨hby, _⟩, ⟨_, _, hrp, ⟨_, _, hrl, ⟨_, _, hrh, _⟩, _⟩, _⟩, _⟩ := hwi.at_ hlast
   have qyq := hby.k22
   go_simp
   refine Calls.mono (r12_Put p.tt p.g p.lm p.r p.K p.s (some ⟨a.pb, 0, none⟩) p.P.length a.pc (some ⟨a.lb, 0, none⟩) p.LL.length a.lc (p.v i1) p.n p.th _ hs8 (by omega) ht1 [] []) ?_
   rintro e w2 ⟨yn, rfl, hn⟩
   apply hK
   · rfl
   · exact hwi.made (by decide) hSi hlast (ptr yn) (nw_with hn)
  simp only [put_lit, put_none]
  try dsimp only [List.set_cons_succ, List.set_cons_zero]
  iterate 2
   apply ObligF.fixed
   case h =>
    intro S gh w1 hwi hSi hd hcl
    apply StepOk.intro
    intro K hK
    go_simp
    apply hK
    · rfl
    · conv => (lhs; whnf)
    · exact hwi.fixed (by decide)
   simp only [put_lit, put_none]
   try dsimp only [List.set_cons_succ, List.set_cons_zero]
  apply ObligF.fixed
  case h =>
   intro S gh w1 hwi hSi hd hcl
   apply StepOk.intro
   intro K hK
   have hmade := hd ⟨23, .data⟩ (by simp) rfl
   have hlast := hSi
   obtain ⟨_, _, _, ⟨hby, _⟩, ⟨_, _, hrp, ⟨_, _, hrl, ⟨_, _, hrh, _⟩, _⟩, _⟩, _⟩ := hwi.at_ hlast
   have qyq := hby.k22
   obtain ⟨_, ⟨yq, _, e1⟩, _⟩ := Sx.get ((hwi.1 hSi).2 hmade)
   rw [e1]
   go_simp
   apply hK
   · rfl
   · conv => (lhs; whnf)
   · exact hwi.done hmade hSi (fun hs => by rw [e1] at hs ⊢; exact Sx.pick (Sx.tr (Sx.pick hs 1 (by simp)) (fun R hr => blk_store hr 16 _)) 1 (by simp))
  simp only [put_lit, put_none]
  try dsimp only [List.set_cons_succ, List.set_cons_zero]
  exact ObligF.nil
 case h0 =>
  exact NS.start HS.out (by decide)
 case hend =>
  intro S gh wx hwi hall
  obtain ⟨v, hv⟩ := hwi.end_ (hall 26 (by decide))
  clear hwi hall
  have HV := hid hv
  clear hv
  go_wp2_with fail
  (try simp only [Exit.inBlock, Exit.then])
  refine bodyPost_ret (results_none rfl _ _ _) rfl ?_
  exact ⟨v, rfl, HV.out⟩
set_option maxHeartbeats 4000000 in
theorem r12_added_last (hp : P12OK p) (hl : t.at_ + 1 = p.path.length) (hf : t.cl.fin = 1) (hc : t.cl.n < 16) (h : (stars [Ass.blk y 83 (cs12 p a ((t.ph : Nat)) ((t.at_ : Nat)) (pv) (av) (t.live) (t.err) (t.on) (t.ond)), rP12 p a, rL12 p a, rH12 p a, r11O a.C p.K p.th a.yc t.cl]).At R w) :
 Calls Tryz.prog 61 #[ptr y] w fun e w' => e = .returned (.tuple #[]) ∧ Tr (stars [Ass.blk y 83 (cs12 p a (6) (((t.at_ + 1 : Nat) : Int)) (pv) (av) (t.live) (0) (hd16 t.cl.n t.live) (0)), rP12 p a, rL12 p a, rH12 p a, r11O a.C p.K p.th a.yc t.cl]) R w w' := by
 have hh := hp.h1
 have hab : t.at_ ≤ 12 := by omega
 obtain ⟨w0, hw0⟩ : ∃ v, v = w := ⟨_, rfl⟩
 rw [← hw0] at h ⊢
 have HS := hid (show Sx R w0 [Ass.blk y 83 (cs12 p a ((t.ph : Nat)) ((t.at_ : Nat)) (pv) (av) (t.live) (t.err) (t.on) (t.ond)), rP12 p a, rL12 p a, rH12 p a, r11O a.C p.K p.th a.yc t.cl] w0 from Sx.start h)
 clear h hw0
 obtain ⟨_, ⟨hb, _⟩, _⟩ := Sx.get (show Sx R w0 [Ass.blk y 83 (cs12 p a ((t.ph : Nat)) ((t.at_ : Nat)) (pv) (av) (t.live) (t.err) (t.on) (t.ond)), rP12 p a, rL12 p a, rH12 p a, r11O a.C p.K p.th a.yc t.cl] w0 from (show Sx R w0 [Ass.blk y 83 (cs12 p a ((t.ph : Nat)) ((t.at_ : Nat)) (pv) (av) (t.live) (t.err) (t.on) (t.ond)), rP12 p a, rL12 p a, rH12 p a, r11O a.C p.K p.th a.yc t.cl] w0 from by repeat (with_reducible first | exact HS.out | apply Sx.alloc | apply Sx.drewN | apply Sx.drew)))
 have qy := hb.k22
 clear hb
 have HL := hid hl
 clear hl
 obtain ⟨i1, hi1⟩ : ∃ i, i = t.at_ + 1 := ⟨_, rfl⟩
 have hl := HL.out
 rw [← hi1] at hl
 have HL := hid hl
 clear hl
 have y1 : IntKind.i64.wrap ((t.at_ : Int) + 1) = (i1 : Int) := by rw [IntWalk.i64_in _ (by omega)]; omega
 have HI1 := hid hi1
 clear hi1
 go_enter Tryz.func61, Tryz.ntmps61
 go_upto_region 1 with fail
 obtain ⟨w1, hwn⟩ : ∃ v, v = (w0).setCell ⟨y, 13, none⟩ (i64 ((i1 : Nat) : Int)) := ⟨_, rfl⟩
 rw [← hwn]
 have hs := hid (show Sx R w0 [Ass.blk y 83 (cs12 p a ((t.ph : Nat)) (((i1 : Nat) : Int)) (pv) (av) (t.live) (t.err) (t.on) (t.ond)), rP12 p a, rL12 p a, rH12 p a, r11O a.C p.K p.th a.yc t.cl] w1 from by rw [hwn]; exact (Sx.tr (show Sx R w0 [Ass.blk y 83 (cs12 p a ((t.ph : Nat)) ((t.at_ : Nat)) (pv) (av) (t.live) (t.err) (t.on) (t.ond)), rP12 p a, rL12 p a, rH12 p a, r11O a.C p.K p.th a.yc t.cl] _ from (show Sx R w0 [Ass.blk y 83 (cs12 p a ((t.ph : Nat)) ((t.at_ : Nat)) (pv) (av) (t.live) (t.err) (t.on) (t.ond)), rP12 p a, rL12 p a, rH12 p a, r11O a.C p.K p.th a.yc t.cl] _ from by repeat (with_reducible first | exact HS.out | apply Sx.alloc | apply Sx.drewN | apply Sx.drew))) (fun Rq hr => blk_store hr 13 (i64 ((i1 : Nat) : Int)))))
 clear HS hwn
 have HS := hs
 clear hs
 clear qy
 obtain ⟨_, ⟨hb, _⟩, _⟩ := Sx.get (show Sx R w0 [Ass.blk y 83 (cs12 p a ((t.ph : Nat)) (((i1 : Nat) : Int)) (pv) (av) (t.live) (t.err) (t.on) (t.ond)), rP12 p a, rL12 p a, rH12 p a, r11O a.C p.K p.th a.yc t.cl] w1 from (show Sx R w0 [Ass.blk y 83 (cs12 p a ((t.ph : Nat)) (((i1 : Nat) : Int)) (pv) (av) (t.live) (t.err) (t.on) (t.ond)), rP12 p a, rL12 p a, rH12 p a, r11O a.C p.K p.th a.yc t.cl] w1 from by repeat (with_reducible first | exact HS.out | apply Sx.alloc | apply Sx.drewN | apply Sx.drew)))
 have qy := hb.k22
 clear hb
 have hl := HL.out
 have g1 : (i1 < p.path.length) = False := eq_false (by omega)
 clear hl
 go_quiet (fail)
 obtain ⟨w2, hwn⟩ : ∃ v, v = w1.drewN nq := ⟨_, rfl⟩
 rw [← hwn]
 have hs := hid (show Sx R w0 [Ass.blk y 83 (cs12 p a ((t.ph : Nat)) (((i1 : Nat) : Int)) (pv) (av) (t.live) (t.err) (t.on) (t.ond)), rP12 p a, rL12 p a, rH12 p a, r11O a.C p.K p.th a.yc t.cl] w2 from by rw [hwn]; exact HS.out.drewN nq)
 clear HS hwn qy
 have HS := hs
 clear hs
 go_upto_region 3 with fail
 apply wp_region_text (WI := fun S wx => Keep0 w2 wx) (by kernel_rfl) (by kernel_rfl)
 case hob =>
  iterate 4
   apply Oblig.cons
   case h =>
    intro S w1 hwi hSi hd hcl
    apply StepOk.intro
    intro K hK
    obtain ⟨_, ⟨hb, _⟩, _⟩ := Sx.get (Sx.keep HS.out hwi)
    have qy := hb.k22
    clear hb
    obtain ⟨_, ⟨hcl, _⟩, _⟩ := Sx.get (Sx.pick (Sx.keep HS.out hwi) 4 (by simp))
    go_simp
    apply hK
    · rfl
    · conv => (lhs; whnf)
    · exact hwi
   simp only [put_lit, put_none]
   try dsimp only [List.set_cons_succ, List.set_cons_zero]
  apply Oblig.cons
  case h =>
   intro S w1 hwi hSi hd hcl
   apply StepOk.intro
   intro K hK
   obtain ⟨_, ⟨hb, _⟩, _⟩ := Sx.get (Sx.keep HS.out hwi)
   have qy := hb.k22
   clear hb
   obtain ⟨_, ⟨hcl, _⟩, _⟩ := Sx.get (Sx.pick (Sx.keep HS.out hwi) 4 (by simp))
   go_simp
   refine (show Calls Tryz.prog 48 _ w1 (Ret (.agg #[i64 0, i64 (t.cl.n : Int), .bool false, i64 0]) w1) from by have h := r11_Ans t.cl hcl; unfold clAns at h; rw [if_neg (by omega)] at h; exact h).mono ?_
   rintro e w2 ⟨rfl, hk⟩
   apply hK
   · rfl
   · conv => (lhs; whnf)
   · exact Keep0.step hwi hk
  simp only [put_lit, put_none]
  try dsimp only [List.set_cons_succ, List.set_cons_zero]
  iterate 5
   apply Oblig.cons
   case h =>
    intro S w1 hwi hSi hd hcl
    apply StepOk.intro
    intro K hK
    obtain ⟨_, ⟨hb, _⟩, _⟩ := Sx.get (Sx.keep HS.out hwi)
    have qy := hb.k22
    clear hb
    obtain ⟨_, ⟨hcl, _⟩, _⟩ := Sx.get (Sx.pick (Sx.keep HS.out hwi) 4 (by simp))
    go_simp
    apply hK
    · rfl
    · conv => (lhs; whnf)
    · exact hwi
   simp only [put_lit, put_none]
   try dsimp only [List.set_cons_succ, List.set_cons_zero]
  apply Oblig.cons
  case h =>
   intro S w1 hwi hSi hd hcl
   apply StepOk.intro
   intro K hK
   go_simp
   refine (ref10_Handle t.cl.n t.live _ (by omega)).mono ?_
   rintro e w2 ⟨rfl, rfl⟩
   apply hK
   · rfl
   · conv => (lhs; whnf)
   · exact hwi
  simp only [put_lit, put_none]
  try dsimp only [List.set_cons_succ, List.set_cons_zero]
  iterate 5
   apply Oblig.cons
   case h =>
    intro S w1 hwi hSi hd hcl
    apply StepOk.intro
    intro K hK
    obtain ⟨_, ⟨hb, _⟩, _⟩ := Sx.get (Sx.keep HS.out hwi)
    have qy := hb.k22
    clear hb
    obtain ⟨_, ⟨hcl, _⟩, _⟩ := Sx.get (Sx.pick (Sx.keep HS.out hwi) 4 (by simp))
    go_simp
    apply hK
    · rfl
    · conv => (lhs; whnf)
    · exact hwi
   simp only [put_lit, put_none]
   try dsimp only [List.set_cons_succ, List.set_cons_zero]
  exact Oblig.nil
 case h0 =>
  exact (Keep.refl _ _).drew
 case hend =>
  intro S wx hwi hall
  have hkx := hwi
  obtain ⟨w3, hwn⟩ : ∃ v, v = wx := ⟨_, rfl⟩
  rw [← hwn] at hkx ⊢
  have hs := hid (show Sx R w0 [Ass.blk y 83 (cs12 p a ((t.ph : Nat)) (((i1 : Nat) : Int)) (pv) (av) (t.live) (t.err) (t.on) (t.ond)), rP12 p a, rL12 p a, rH12 p a, r11O a.C p.K p.th a.yc t.cl] w3 from Sx.keep HS.out hkx)
  clear hwi hall hkx hwn HS
  have HS := hs
  clear hs
  obtain ⟨_, ⟨hb, _⟩, _⟩ := Sx.get (show Sx R w0 [Ass.blk y 83 (cs12 p a ((t.ph : Nat)) (((i1 : Nat) : Int)) (pv) (av) (t.live) (t.err) (t.on) (t.ond)), rP12 p a, rL12 p a, rH12 p a, r11O a.C p.K p.th a.yc t.cl] w3 from (show Sx R w0 [Ass.blk y 83 (cs12 p a ((t.ph : Nat)) (((i1 : Nat) : Int)) (pv) (av) (t.live) (t.err) (t.on) (t.ond)), rP12 p a, rL12 p a, rH12 p a, r11O a.C p.K p.th a.yc t.cl] w3 from by repeat (with_reducible first | exact HS.out | apply Sx.alloc | apply Sx.drewN | apply Sx.drew)))
  have qy := hb.k22
  clear hb
  go_wp2_with fail
  go_end0
  have hi1 := HI1.out
  rw [← hi1]
  exact ⟨rfl, (show Sx R w0 [Ass.blk y 83 (cs12 p a (6) (((i1 : Nat) : Int)) (pv) (av) (t.live) (0) (hd16 t.cl.n t.live) (0)), rP12 p a, rL12 p a, rH12 p a, r11O a.C p.K p.th a.yc t.cl] _ from (Sx.tr (Sx.tr (Sx.tr (Sx.tr (Sx.tr (show Sx R w0 [Ass.blk y 83 (cs12 p a ((t.ph : Nat)) (((i1 : Nat) : Int)) (pv) (av) (t.live) (t.err) (t.on) (t.ond)), rP12 p a, rL12 p a, rH12 p a, r11O a.C p.K p.th a.yc t.cl] _ from (show Sx R w0 [Ass.blk y 83 (cs12 p a ((t.ph : Nat)) (((i1 : Nat) : Int)) (pv) (av) (t.live) (t.err) (t.on) (t.ond)), rP12 p a, rL12 p a, rH12 p a, r11O a.C p.K p.th a.yc t.cl] _ from by repeat (with_reducible first | exact HS.out | apply Sx.alloc | apply Sx.drewN | apply Sx.drew))) (fun Rq hr => blk_store hr 18 (i64 0))) (fun Rq hr => blk_store hr 19 (i64 (hd16 t.cl.n t.live)))) (fun Rq hr => blk_store hr 20 (.bool false))) (fun Rq hr => blk_store hr 21 (i64 0))) (fun Rq hr => blk_store hr 12 (i64 6))))⟩
set_option maxHeartbeats 400000 in
theorem r12_Ans6 {c : List Value} {e on ond : Int} (h : Blk w y 83 (cs12 p a (6) ((t.at_ : Nat)) (pv) (av) (t.live) (e) (on) (ond))) : Calls Tryz.prog 43 #[ptr y] w (Ret (.agg #[i64 e, i64 on, .bool false, i64 ond]) w) := by
 have qy := h.k22
 clear h
 go_enter Tryz.func43, Tryz.ntmps43
 go_wp2
 exact bodyPost_ret (v := .agg #[i64 e, i64 on, .bool false, i64 ond]) (by simp [results, Tryz.results43, go_sem]) rfl ⟨rfl, (Keep.refl _ _).alloc _⟩
end
end Go.Proofs.YthaceckccobgeaaGreat

namespace Go.Proofs.YthaceckccobgeaaGreat
open Go.RowKit
set_option linter.unusedVariables false
set_option linter.unusedSimpArgs false
set_option maxRecDepth 100000
section
variable {B m y : Nat} {p : P12} {t : S12} {a : Ad12} {pv av : Value} {R : Nat → Prop} {w : World}
set_option maxHeartbeats 4000000 in
theorem r12_step3 (hp : P12OK p) (hf : t.cl.fin = 1) (hn : t.cl.n < p.K) (htk : t.tk p + 2 ≤ t.W.length) (hW : t.W.length ≤ 10000) (hL : t.L.length ≤ 1000000000) (h : (stars (refO B m t.W t.L :: [Ass.blk y 83 (cs12 p a (((3 : Nat) : Int)) ((t.at_ : Nat)) (pv) (av) (t.live) (t.err) (t.on) (t.ond)), rP12 p a, rL12 p a, rH12 p a, r11O a.C p.K p.th a.yc t.cl])).At R w) :
 Calls Tryz.prog 12 #[ptr y, ptr m] w fun e w' => e = .returned (.bool false) ∧ Tr (stars ((refO B m (t.W.set (t.tk p + 1) (p.nd * 2097152 + p.n)) (t.L ++ [⟨4, (t.tk p + 1 : Nat), p.nd * 2097152 + p.n, 0, false⟩])) :: [Ass.blk y 83 (cs12 p a (((4 : Nat) : Int)) ((t.at_ : Nat)) (pv) (av) (t.live) (t.err) (t.on) (t.ond)), rP12 p a, rL12 p a, rH12 p a, r11O a.C p.K p.th a.yc t.cl])) R w w' := by
 obtain ⟨w0, hw0⟩ : ∃ v, v = w := ⟨_, rfl⟩
 rw [← hw0] at h ⊢
 have HS := hid (show Sx R w0 [refO B m t.W t.L, Ass.blk y 83 (cs12 p a (((3 : Nat) : Int)) ((t.at_ : Nat)) (pv) (av) (t.live) (t.err) (t.on) (t.ond)), rP12 p a, rL12 p a, rH12 p a, r11O a.C p.K p.th a.yc t.cl] w0 from Sx.start h)
 clear h hw0
 obtain ⟨k1, hk1⟩ : ∃ k, k = t.tk p + 1 := ⟨_, rfl⟩
 rw [← hk1]
 have y1 : IntKind.i64.wrap (((t.tk p : Nat) : Int) + 1) = (k1 : Int) := by rw [IntWalk.i64_in _ (by omega)]; omega
 have hk1b : k1 < t.W.length := by omega
 clear hk1
 have hs8 := hp.s8
 have hp1 := hp.p1
 have hk1 := hp.k1
 obtain ⟨ae, hae⟩ : ∃ ae : Int, ae = (if t.cl.fin = 2 then 3 else 0) := ⟨_, rfl⟩
 have HAE := hid hae
 clear hae
 have htk0 := fun w' => ref_Ticket p.tt p.s p.g p.lm p.r p.K (some ⟨a.pb, 0, none⟩) p.P.length a.pc (some ⟨a.lb, 0, none⟩) p.LL.length a.lc (t.cl.n : Int) w' (by omega) (by omega) (by omega) (by omega) (by omega)
 rw [show (p.P.length : Int) * (6 + 2 * (p.s : Int)) + 2 * (t.cl.n : Int) = ((t.tk p : Nat) : Int) from by unfold S12.tk P12.q; push_cast; rfl] at htk0
 have HTK := hid htk0
 clear htk0
 go_enter Tryz.func12, Tryz.ntmps12
 go_upto_region 1 with fail
 apply wp_region_text (WI := fun S wx => Keep0 w0 wx) (by kernel_rfl) (by kernel_rfl)
 case hob =>
  iterate 8
   apply Oblig.cons
   case h =>
    intro S w1 hwi hSi hd hcl
    apply StepOk.intro
    intro K hK
    obtain ⟨_, ⟨hb, _⟩, _⟩ := Sx.get (Sx.pick (Sx.keep HS.out hwi) 1 (by simp))
    have qy := hb.k22
    clear hb
    obtain ⟨_, ⟨hcl, _⟩, _⟩ := Sx.get (Sx.pick (Sx.keep HS.out hwi) 5 (by simp))
    go_simp
    apply hK
    · rfl
    · conv => (lhs; whnf)
    · exact hwi
   simp only [put_lit, put_none]
   try dsimp only [List.set_cons_succ, List.set_cons_zero]
  apply Oblig.cons
  case h =>
   intro S w1 hwi hSi hd hcl
   apply StepOk.intro
   intro K hK
   obtain ⟨_, ⟨hb, _⟩, _⟩ := Sx.get (Sx.pick (Sx.keep HS.out hwi) 1 (by simp))
   have qy := hb.k22
   clear hb
   obtain ⟨_, ⟨hcl, _⟩, _⟩ := Sx.get (Sx.pick (Sx.keep HS.out hwi) 5 (by simp))
   go_simp
   refine (show Calls Tryz.prog 48 _ w1 (Ret (.agg #[i64 ae, i64 (t.cl.n : Int), .bool false, i64 0]) w1) from by have h := r11_Ans t.cl hcl; unfold clAns at h; rw [← HAE.out] at h; exact h).mono ?_
   rintro e w2 ⟨rfl, hk⟩
   apply hK
   · rfl
   · conv => (lhs; whnf)
   · exact Keep0.step hwi hk
  simp only [put_lit, put_none]
  try dsimp only [List.set_cons_succ, List.set_cons_zero]
  apply Oblig.cons
  case h =>
   intro S w1 hwi hSi hd hcl
   apply StepOk.intro
   intro K hK
   obtain ⟨_, ⟨hb, _⟩, _⟩ := Sx.get (Sx.pick (Sx.keep HS.out hwi) 1 (by simp))
   have qy := hb.k22
   clear hb
   obtain ⟨_, ⟨hcl, _⟩, _⟩ := Sx.get (Sx.pick (Sx.keep HS.out hwi) 5 (by simp))
   go_simp
   apply hK
   · rfl
   · conv => (lhs; whnf)
   · exact hwi
  simp only [put_lit, put_none]
  try dsimp only [List.set_cons_succ, List.set_cons_zero]
  apply Oblig.cons
  case h =>
   intro S w1 hwi hSi hd hcl
   apply StepOk.intro
   intro K hK
   go_simp
   refine (HTK.out _).mono ?_
   rintro e w2 ⟨rfl, hk⟩
   apply hK
   · rfl
   · conv => (lhs; whnf)
   · exact Keep0.step hwi hk
  simp only [put_lit, put_none]
  try dsimp only [List.set_cons_succ, List.set_cons_zero]
  apply Oblig.cons
  case h =>
   intro S w1 hwi hSi hd hcl
   apply StepOk.intro
   intro K hK
   obtain ⟨_, ⟨hb, _⟩, _⟩ := Sx.get (Sx.pick (Sx.keep HS.out hwi) 1 (by simp))
   have qy := hb.k22
   clear hb
   obtain ⟨_, ⟨hcl, _⟩, _⟩ := Sx.get (Sx.pick (Sx.keep HS.out hwi) 5 (by simp))
   go_simp
   apply hK
   · rfl
   · conv => (lhs; whnf)
   · exact hwi
  simp only [put_lit, put_none]
  try dsimp only [List.set_cons_succ, List.set_cons_zero]
  exact Oblig.nil
 case h0 =>
  exact (Keep.refl _ _).drew
 case hend =>
  intro S wx hwi hall
  have hkx := hwi
  obtain ⟨w1, hwn⟩ : ∃ v, v = wx := ⟨_, rfl⟩
  rw [← hwn] at hkx ⊢
  have hs := hid (show Sx R w0 [refO B m t.W t.L, Ass.blk y 83 (cs12 p a (((3 : Nat) : Int)) ((t.at_ : Nat)) (pv) (av) (t.live) (t.err) (t.on) (t.ond)), rP12 p a, rL12 p a, rH12 p a, r11O a.C p.K p.th a.yc t.cl] w1 from Sx.keep HS.out hkx)
  clear hwi hall hkx hwn HS
  have HS := hs
  clear hs
  obtain ⟨_, ⟨hb, _⟩, _⟩ := Sx.get (show Sx R w0 [Ass.blk y 83 (cs12 p a (((3 : Nat) : Int)) ((t.at_ : Nat)) (pv) (av) (t.live) (t.err) (t.on) (t.ond)), refO B m t.W t.L, rP12 p a, rL12 p a, rH12 p a, r11O a.C p.K p.th a.yc t.cl] w1 from (Sx.pick (show Sx R w0 [refO B m t.W t.L, Ass.blk y 83 (cs12 p a (((3 : Nat) : Int)) ((t.at_ : Nat)) (pv) (av) (t.live) (t.err) (t.on) (t.ond)), rP12 p a, rL12 p a, rH12 p a, r11O a.C p.K p.th a.yc t.cl] w1 from by repeat (with_reducible first | exact HS.out | apply Sx.alloc | apply Sx.drewN | apply Sx.drew)) 1 (by simp)))
  have qy := hb.k22
  clear hb
  have HBD := hid (ref10_Body p.nd p.n)
  have hnd := hp.nd1
  go_upto_region 17 with fail
  apply wp_region_text (WI := fun S wx => Keep0 w1 wx) (by kernel_rfl) (by kernel_rfl)
  case hob =>
   iterate 8
    apply Oblig.cons
    case h =>
     intro S w1 hwi hSi hd hcl
     apply StepOk.intro
     intro K hK
     obtain ⟨_, ⟨hb, _⟩, _⟩ := Sx.get (Sx.pick (Sx.keep HS.out hwi) 1 (by simp))
     have qy := hb.k22
     clear hb
     go_simp
     apply hK
     · rfl
     · conv => (lhs; whnf)
     · exact hwi
    simp only [put_lit, put_none]
    try dsimp only [List.set_cons_succ, List.set_cons_zero]
   apply Oblig.cons
   case h =>
    intro S w1 hwi hSi hd hcl
    apply StepOk.intro
    intro K hK
    obtain ⟨_, ⟨hb, _⟩, _⟩ := Sx.get (Sx.pick (Sx.keep HS.out hwi) 1 (by simp))
    have qy := hb.k22
    clear hb
    go_simp
    refine (HBD.out _ (by omega) hp.n1).mono ?_
    rintro e w2 ⟨rfl, rfl⟩
    apply hK
    · rfl
    · conv => (lhs; whnf)
    · exact hwi
   simp only [put_lit, put_none]
   try dsimp only [List.set_cons_succ, List.set_cons_zero]
   iterate 5
    apply Oblig.cons
    case h =>
     intro S w1 hwi hSi hd hcl
     apply StepOk.intro
     intro K hK
     obtain ⟨_, ⟨hb, _⟩, _⟩ := Sx.get (Sx.pick (Sx.keep HS.out hwi) 1 (by simp))
     have qy := hb.k22
     clear hb
     go_simp
     apply hK
     · rfl
     · conv => (lhs; whnf)
     · exact hwi
    simp only [put_lit, put_none]
    try dsimp only [List.set_cons_succ, List.set_cons_zero]
   exact Oblig.nil
  case h0 =>
   exact (Keep.refl _ _).drew
  case hend =>
   intro S wx hwi hall
   have hkx := hwi
   obtain ⟨w2, hwn⟩ : ∃ v, v = wx := ⟨_, rfl⟩
   rw [← hwn] at hkx ⊢
   have hs := hid (show Sx R w0 [refO B m t.W t.L, Ass.blk y 83 (cs12 p a (((3 : Nat) : Int)) ((t.at_ : Nat)) (pv) (av) (t.live) (t.err) (t.on) (t.ond)), rP12 p a, rL12 p a, rH12 p a, r11O a.C p.K p.th a.yc t.cl] w2 from Sx.keep HS.out hkx)
   clear hwi hall hkx hwn HS qy
   have HS := hs
   clear hs
   go_wp2_with fail
   refine Calls.mono (Sx.call (q := refO B m (t.W.set k1 (p.nd * 2097152 + p.n)) (t.L ++ [⟨4, (k1 : Nat), p.nd * 2097152 + p.n, 0, false⟩])) (show Sx R w0 [refO B m t.W t.L, Ass.blk y 83 (cs12 p a (((3 : Nat) : Int)) ((t.at_ : Nat)) (pv) (av) (t.live) (t.err) (t.on) (t.ond)), rP12 p a, rL12 p a, rH12 p a, r11O a.C p.K p.th a.yc t.cl] _ from (show Sx R w0 [refO B m t.W t.L, Ass.blk y 83 (cs12 p a (((3 : Nat) : Int)) ((t.at_ : Nat)) (pv) (av) (t.live) (t.err) (t.on) (t.ond)), rP12 p a, rL12 p a, rH12 p a, r11O a.C p.K p.th a.yc t.cl] _ from by repeat (with_reducible first | exact HS.out | apply Sx.alloc | apply Sx.drewN | apply Sx.drew))) (fun Rq hr hz => refO_Store k1 (p.nd * 2097152 + p.n) hr (by omega) (by omega) hL)) ?_
   rintro e w3 ⟨rfl, hs⟩
   clear HS
   have HS := hid (show Sx R w0 [refO B m (t.W.set k1 (p.nd * 2097152 + p.n)) (t.L ++ [⟨4, (k1 : Nat), p.nd * 2097152 + p.n, 0, false⟩]), Ass.blk y 83 (cs12 p a (((3 : Nat) : Int)) ((t.at_ : Nat)) (pv) (av) (t.live) (t.err) (t.on) (t.ond)), rP12 p a, rL12 p a, rH12 p a, r11O a.C p.K p.th a.yc t.cl] w3 from hs)
   clear hs
   obtain ⟨_, ⟨hb, _⟩, _⟩ := Sx.get (show Sx R w0 [Ass.blk y 83 (cs12 p a (((3 : Nat) : Int)) ((t.at_ : Nat)) (pv) (av) (t.live) (t.err) (t.on) (t.ond)), refO B m (t.W.set k1 (p.nd * 2097152 + p.n)) (t.L ++ [⟨4, (k1 : Nat), p.nd * 2097152 + p.n, 0, false⟩]), rP12 p a, rL12 p a, rH12 p a, r11O a.C p.K p.th a.yc t.cl] w3 from (Sx.pick (show Sx R w0 [refO B m (t.W.set k1 (p.nd * 2097152 + p.n)) (t.L ++ [⟨4, (k1 : Nat), p.nd * 2097152 + p.n, 0, false⟩]), Ass.blk y 83 (cs12 p a (((3 : Nat) : Int)) ((t.at_ : Nat)) (pv) (av) (t.live) (t.err) (t.on) (t.ond)), rP12 p a, rL12 p a, rH12 p a, r11O a.C p.K p.th a.yc t.cl] w3 from by repeat (with_reducible first | exact HS.out | apply Sx.alloc | apply Sx.drewN | apply Sx.drew)) 1 (by simp)))
   have qy := hb.k22
   clear hb
   go_wp2_with fail
   go_ret
   exact ⟨rfl, Sx.pick (show Sx R w0 [Ass.blk y 83 (cs12 p a (((4 : Nat) : Int)) ((t.at_ : Nat)) (pv) (av) (t.live) (t.err) (t.on) (t.ond)), refO B m (t.W.set k1 (p.nd * 2097152 + p.n)) (t.L ++ [⟨4, (k1 : Nat), p.nd * 2097152 + p.n, 0, false⟩]), rP12 p a, rL12 p a, rH12 p a, r11O a.C p.K p.th a.yc t.cl] _ from (Sx.tr (show Sx R w0 [Ass.blk y 83 (cs12 p a (((3 : Nat) : Int)) ((t.at_ : Nat)) (pv) (av) (t.live) (t.err) (t.on) (t.ond)), refO B m (t.W.set k1 (p.nd * 2097152 + p.n)) (t.L ++ [⟨4, (k1 : Nat), p.nd * 2097152 + p.n, 0, false⟩]), rP12 p a, rL12 p a, rH12 p a, r11O a.C p.K p.th a.yc t.cl] _ from (Sx.pick (show Sx R w0 [refO B m (t.W.set k1 (p.nd * 2097152 + p.n)) (t.L ++ [⟨4, (k1 : Nat), p.nd * 2097152 + p.n, 0, false⟩]), Ass.blk y 83 (cs12 p a (((3 : Nat) : Int)) ((t.at_ : Nat)) (pv) (av) (t.live) (t.err) (t.on) (t.ond)), rP12 p a, rL12 p a, rH12 p a, r11O a.C p.K p.th a.yc t.cl] _ from by repeat (with_reducible first | exact HS.out | apply Sx.alloc | apply Sx.drewN | apply Sx.drew)) 1 (by simp))) (fun Rq hr => blk_store hr 12 (i64 4)))) 1 (by simp)⟩
set_option maxHeartbeats 4000000 in
theorem r12_step6 (hp : P12OK p) (hn : t.cl.n < p.K) (h : (stars (refO B m t.W t.L :: [Ass.blk y 83 (cs12 p a (((6 : Nat) : Int)) ((t.at_ : Nat)) (pv) (av) (t.live) (t.err) (t.on) (t.ond)), rP12 p a, rL12 p a, rH12 p a, r11O a.C p.K p.th a.yc t.cl])).At R w) : Calls Tryz.prog 12 #[ptr y, ptr m] w fun e w' => e = .returned (.bool true) ∧ Tr (stars (refO B m t.W t.L :: [Ass.blk y 83 (cs12 p a (((6 : Nat) : Int)) ((t.at_ : Nat)) (pv) (av) (t.live) (t.err) (t.on) (t.ond)), rP12 p a, rL12 p a, rH12 p a, r11O a.C p.K p.th a.yc t.cl])) R w w' := by
 obtain ⟨w0, hw0⟩ : ∃ v, v = w := ⟨_, rfl⟩
 rw [← hw0] at h ⊢
 have HS := hid (show Sx R w0 [refO B m t.W t.L, Ass.blk y 83 (cs12 p a (((6 : Nat) : Int)) ((t.at_ : Nat)) (pv) (av) (t.live) (t.err) (t.on) (t.ond)), rP12 p a, rL12 p a, rH12 p a, r11O a.C p.K p.th a.yc t.cl] w0 from Sx.start h)
 clear h hw0
 have hs8 := hp.s8
 have hp1 := hp.p1
 have hk1 := hp.k1
 obtain ⟨ae, hae⟩ : ∃ ae : Int, ae = (if t.cl.fin = 2 then 3 else 0) := ⟨_, rfl⟩
 have HAE := hid hae
 clear hae
 have htk0 := fun w' => ref_Ticket p.tt p.s p.g p.lm p.r p.K (some ⟨a.pb, 0, none⟩) p.P.length a.pc (some ⟨a.lb, 0, none⟩) p.LL.length a.lc (t.cl.n : Int) w' (by omega) (by omega) (by omega) (by omega) (by omega)
 rw [show (p.P.length : Int) * (6 + 2 * (p.s : Int)) + 2 * (t.cl.n : Int) = ((t.tk p : Nat) : Int) from by unfold S12.tk P12.q; push_cast; rfl] at htk0
 have HTK := hid htk0
 clear htk0
 go_enter Tryz.func12, Tryz.ntmps12
 go_upto_region 1 with fail
 apply wp_region_text (WI := fun S wx => Keep0 w0 wx) (by kernel_rfl) (by kernel_rfl)
 case hob =>
  iterate 8
   apply Oblig.cons
   case h =>
    intro S w1 hwi hSi hd hcl
    apply StepOk.intro
    intro K hK
    obtain ⟨_, ⟨hb, _⟩, _⟩ := Sx.get (Sx.pick (Sx.keep HS.out hwi) 1 (by simp))
    have qy := hb.k22
    clear hb
    obtain ⟨_, ⟨hcl, _⟩, _⟩ := Sx.get (Sx.pick (Sx.keep HS.out hwi) 5 (by simp))
    go_simp
    apply hK
    · rfl
    · conv => (lhs; whnf)
    · exact hwi
   simp only [put_lit, put_none]
   try dsimp only [List.set_cons_succ, List.set_cons_zero]
  apply Oblig.cons
  case h =>
   intro S w1 hwi hSi hd hcl
   apply StepOk.intro
   intro K hK
   obtain ⟨_, ⟨hb, _⟩, _⟩ := Sx.get (Sx.pick (Sx.keep HS.out hwi) 1 (by simp))
   have qy := hb.k22
   clear hb
   obtain ⟨_, ⟨hcl, _⟩, _⟩ := Sx.get (Sx.pick (Sx.keep HS.out hwi) 5 (by simp))
   go_simp
   refine (show Calls Tryz.prog 48 _ w1 (Ret (.agg #[i64 ae, i64 (t.cl.n : Int), .bool false, i64 0]) w1) from by have h := r11_Ans t.cl hcl; unfold clAns at h; rw [← HAE.out] at h; exact h).mono ?_
   rintro e w2 ⟨rfl, hk⟩
   apply hK
   · rfl
   · conv => (lhs; whnf)
   · exact Keep0.step hwi hk
  simp only [put_lit, put_none]
  try dsimp only [List.set_cons_succ, List.set_cons_zero]
  apply Oblig.cons
  case h =>
   intro S w1 hwi hSi hd hcl
   apply StepOk.intro
   intro K hK
   obtain ⟨_, ⟨hb, _⟩, _⟩ := Sx.get (Sx.pick (Sx.keep HS.out hwi) 1 (by simp))
   have qy := hb.k22
   clear hb
   obtain ⟨_, ⟨hcl, _⟩, _⟩ := Sx.get (Sx.pick (Sx.keep HS.out hwi) 5 (by simp))
   go_simp
   apply hK
   · rfl
   · conv => (lhs; whnf)
   · exact hwi
  simp only [put_lit, put_none]
  try dsimp only [List.set_cons_succ, List.set_cons_zero]
  apply Oblig.cons
  case h =>
   intro S w1 hwi hSi hd hcl
   apply StepOk.intro
   intro K hK
   go_simp
   refine (HTK.out _).mono ?_
   rintro e w2 ⟨rfl, hk⟩
   apply hK
   · rfl
   · conv => (lhs; whnf)
   · exact Keep0.step hwi hk
  simp only [put_lit, put_none]
  try dsimp only [List.set_cons_succ, List.set_cons_zero]
  apply Oblig.cons
  case h =>
   intro S w1 hwi hSi hd hcl
   apply StepOk.intro
   intro K hK
   obtain ⟨_, ⟨hb, _⟩, _⟩ := Sx.get (Sx.pick (Sx.keep HS.out hwi) 1 (by simp))
   have qy := hb.k22
   clear hb
   obtain ⟨_, ⟨hcl, _⟩, _⟩ := Sx.get (Sx.pick (Sx.keep HS.out hwi) 5 (by simp))
   go_simp
   apply hK
   · rfl
   · conv => (lhs; whnf)
   · exact hwi
  simp only [put_lit, put_none]
  try dsimp only [List.set_cons_succ, List.set_cons_zero]
  exact Oblig.nil
 case h0 =>
  exact (Keep.refl _ _).drew
 case hend =>
  intro S wx hwi hall
  have hkx := hwi
  obtain ⟨w1, hwn⟩ : ∃ v, v = wx := ⟨_, rfl⟩
  rw [← hwn] at hkx ⊢
  have hs := hid (show Sx R w0 [refO B m t.W t.L, Ass.blk y 83 (cs12 p a (((6 : Nat) : Int)) ((t.at_ : Nat)) (pv) (av) (t.live) (t.err) (t.on) (t.ond)), rP12 p a, rL12 p a, rH12 p a, r11O a.C p.K p.th a.yc t.cl] w1 from Sx.keep HS.out hkx)
  clear hwi hall hkx hwn HS
  have HS := hs
  clear hs
  obtain ⟨_, ⟨hb, _⟩, _⟩ := Sx.get (show Sx R w0 [Ass.blk y 83 (cs12 p a (((6 : Nat) : Int)) ((t.at_ : Nat)) (pv) (av) (t.live) (t.err) (t.on) (t.ond)), refO B m t.W t.L, rP12 p a, rL12 p a, rH12 p a, r11O a.C p.K p.th a.yc t.cl] w1 from (Sx.pick (show Sx R w0 [refO B m t.W t.L, Ass.blk y 83 (cs12 p a (((6 : Nat) : Int)) ((t.at_ : Nat)) (pv) (av) (t.live) (t.err) (t.on) (t.ond)), rP12 p a, rL12 p a, rH12 p a, r11O a.C p.K p.th a.yc t.cl] w1 from by repeat (with_reducible first | exact HS.out | apply Sx.alloc | apply Sx.drewN | apply Sx.drew)) 1 (by simp)))
  have qy := hb.k22
  clear hb
  go_wp2_with fail
  go_ret
  exact ⟨rfl, HS.out⟩
set_option maxHeartbeats 4000000 in
theorem r12_step2 (hp : P12OK p) (hn : t.cl.n < p.K) (ha : 0 < t.at_) (ha2 : t.at_ ≤ p.path.length) (hW : t.W.length ≤ 10000) (hq : p.q ≤ t.W.length) (hL : t.L.length ≤ 1000000000) (h : (stars (refO B m t.W t.L :: [Ass.blk y 83 (cs12 p a (((2 : Nat) : Int)) ((t.at_ : Nat)) (pv) (av) (t.live) (t.err) (t.on) (t.ond)), rP12 p a, rL12 p a, rH12 p a, r11O a.C p.K p.th a.yc t.cl])).At R w) :
 Calls Tryz.prog 12 #[ptr y, ptr m] w fun e w' => e = .returned (.bool false) ∧ Tr (stars ((refO B m (t.W.set (p.av (p.v (t.at_ - 1))) (wrap64 (rd t.W (p.av (p.v (t.at_ - 1))) + p.n))) (t.L ++ [⟨2, (p.av (p.v (t.at_ - 1)) : Nat), p.n, wrap64 (rd t.W (p.av (p.v (t.at_ - 1))) + p.n), false⟩])) :: [Ass.blk y 83 (cs12 p a (((2 : Nat) : Int)) (((t.at_ - 1 : Nat) : Int)) (pv) (av) (t.live) (t.err) (t.on) (t.ond)), rP12 p a, rL12 p a, rH12 p a, r11O a.C p.K p.th a.yc t.cl])) R w w' := by
 have hh1 := hp.h1
 obtain ⟨w0, hw0⟩ : ∃ v, v = w := ⟨_, rfl⟩
 rw [← hw0] at h ⊢
 have HS := hid (show Sx R w0 [refO B m t.W t.L, Ass.blk y 83 (cs12 p a (((2 : Nat) : Int)) ((t.at_ : Nat)) (pv) (av) (t.live) (t.err) (t.on) (t.ond)), rP12 p a, rL12 p a, rH12 p a, r11O a.C p.K p.th a.yc t.cl] w0 from Sx.start h)
 clear h hw0
 obtain ⟨i1, hi1⟩ : ∃ i, i = t.at_ - 1 := ⟨_, rfl⟩
 rw [← hi1]
 have y1 : IntKind.i64.wrap ((t.at_ : Int) - 1) = (i1 : Int) := by rw [IntWalk.i64_in _ (by omega)]; omega
 have hil : i1 < p.path.length := by omega
 have g1 : (0 < t.at_) = True := eq_true ha
 clear hi1
 have hv := hp.v1 hil
 have hpl := hp.p1
 have hsq := hp.s8
 have hav0 := fun w' => ref_Avail p.tt p.s p.g p.lm p.r p.K (some ⟨a.pb, 0, none⟩) p.P.length a.pc (some ⟨a.lb, 0, none⟩) p.LL.length a.lc (p.v i1 : Int) w' (by omega) (by omega) (by omega) (by omega)
 rw [show (p.v i1 : Int) * (6 + 2 * (p.s : Int)) + 1 = ((p.av (p.v i1) : Nat) : Int) from by unfold P12.av; push_cast; rfl] at hav0
 have HAV := hid hav0
 have havl := hp.av_lt hv
 clear hav0
 have hs8 := hp.s8
 have hp1 := hp.p1
 have hk1 := hp.k1
 obtain ⟨ae, hae⟩ : ∃ ae : Int, ae = (if t.cl.fin = 2 then 3 else 0) := ⟨_, rfl⟩
 have HAE := hid hae
 clear hae
 have htk0 := fun w' => ref_Ticket p.tt p.s p.g p.lm p.r p.K (some ⟨a.pb, 0, none⟩) p.P.length a.pc (some ⟨a.lb, 0, none⟩) p.LL.length a.lc (t.cl.n : Int) w' (by omega) (by omega) (by omega) (by omega) (by omega)
 rw [show (p.P.length : Int) * (6 + 2 * (p.s : Int)) + 2 * (t.cl.n : Int) = ((t.tk p : Nat) : Int) from by unfold S12.tk P12.q; push_cast; rfl] at htk0
 have HTK := hid htk0
 clear htk0
 go_enter Tryz.func12, Tryz.ntmps12
 go_upto_region 1 with fail
 apply wp_region_text (WI := fun S wx => Keep0 w0 wx) (by kernel_rfl) (by kernel_rfl)
 case hob =>
  iterate 8
   apply Oblig.cons
   case h =>
    intro S w1 hwi hSi hd hcl
    apply StepOk.intro
    intro K hK
    obtain ⟨_, ⟨hb, _⟩, _⟩ := Sx.get (Sx.pick (Sx.keep HS.out hwi) 1 (by simp))
    have qy := hb.k22
    clear hb
    obtain ⟨_, ⟨hcl, _⟩, _⟩ := Sx.get (Sx.pick (Sx.keep HS.out hwi) 5 (by simp))
    go_simp
    apply hK
    · rfl
    · conv => (lhs; whnf)
    · exact hwi
   simp only [put_lit, put_none]
   try dsimp only [List.set_cons_succ, List.set_cons_zero]
  apply Oblig.cons
  case h =>
   intro S w1 hwi hSi hd hcl
   apply StepOk.intro
   intro K hK
   obtain ⟨_, ⟨hb, _⟩, _⟩ := Sx.get (Sx.pick (Sx.keep HS.out hwi) 1 (by simp))
   have qy := hb.k22
   clear hb
   obtain ⟨_, ⟨hcl, _⟩, _⟩ := Sx.get (Sx.pick (Sx.keep HS.out hwi) 5 (by simp))
   go_simp
   refine (show Calls Tryz.prog 48 _ w1 (Ret (.agg #[i64 ae, i64 (t.cl.n : Int), .bool false, i64 0]) w1) from by have h := r11_Ans t.cl hcl; unfold clAns at h; rw [← HAE.out] at h; exact h).mono ?_
   rintro e w2 ⟨rfl, hk⟩
   apply hK
   · rfl
   · conv => (lhs; whnf)
   · exact Keep0.step hwi hk
  simp only [put_lit, put_none]
  try dsimp only [List.set_cons_succ, List.set_cons_zero]
  apply Oblig.cons
  case h =>
   intro S w1 hwi hSi hd hcl
   apply StepOk.intro
   intro K hK
   obtain ⟨_, ⟨hb, _⟩, _⟩ := Sx.get (Sx.pick (Sx.keep HS.out hwi) 1 (by simp))
   have qy := hb.k22
   clear hb
   obtain ⟨_, ⟨hcl, _⟩, _⟩ := Sx.get (Sx.pick (Sx.keep HS.out hwi) 5 (by simp))
   go_simp
   apply hK
   · rfl
   · conv => (lhs; whnf)
   · exact hwi
  simp only [put_lit, put_none]
  try dsimp only [List.set_cons_succ, List.set_cons_zero]
  apply Oblig.cons
  case h =>
   intro S w1 hwi hSi hd hcl
   apply StepOk.intro
   intro K hK
   go_simp
   refine (HTK.out _).mono ?_
   rintro e w2 ⟨rfl, hk⟩
   apply hK
   · rfl
   · conv => (lhs; whnf)
   · exact Keep0.step hwi hk
  simp only [put_lit, put_none]
  try dsimp only [List.set_cons_succ, List.set_cons_zero]
  apply Oblig.cons
  case h =>
   intro S w1 hwi hSi hd hcl
   apply StepOk.intro
   intro K hK
   obtain ⟨_, ⟨hb, _⟩, _⟩ := Sx.get (Sx.pick (Sx.keep HS.out hwi) 1 (by simp))
   have qy := hb.k22
   clear hb
   obtain ⟨_, ⟨hcl, _⟩, _⟩ := Sx.get (Sx.pick (Sx.keep HS.out hwi) 5 (by simp))
   go_simp
   apply hK
   · rfl
   · conv => (lhs; whnf)
   · exact hwi
  simp only [put_lit, put_none]
  try dsimp only [List.set_cons_succ, List.set_cons_zero]
  exact Oblig.nil
 case h0 =>
  exact (Keep.refl _ _).drew
 case hend =>
  intro S wx hwi hall
  have hkx := hwi
  obtain ⟨w1, hwn⟩ : ∃ v, v = wx := ⟨_, rfl⟩
  rw [← hwn] at hkx ⊢
  have hs := hid (show Sx R w0 [refO B m t.W t.L, Ass.blk y 83 (cs12 p a (((2 : Nat) : Int)) ((t.at_ : Nat)) (pv) (av) (t.live) (t.err) (t.on) (t.ond)), rP12 p a, rL12 p a, rH12 p a, r11O a.C p.K p.th a.yc t.cl] w1 from Sx.keep HS.out hkx)
  clear hwi hall hkx hwn HS
  have HS := hs
  clear hs
  obtain ⟨_, ⟨hb, _⟩, _⟩ := Sx.get (show Sx R w0 [Ass.blk y 83 (cs12 p a (((2 : Nat) : Int)) ((t.at_ : Nat)) (pv) (av) (t.live) (t.err) (t.on) (t.ond)), refO B m t.W t.L, rP12 p a, rL12 p a, rH12 p a, r11O a.C p.K p.th a.yc t.cl] w1 from (Sx.pick (show Sx R w0 [refO B m t.W t.L, Ass.blk y 83 (cs12 p a (((2 : Nat) : Int)) ((t.at_ : Nat)) (pv) (av) (t.live) (t.err) (t.on) (t.ond)), rP12 p a, rL12 p a, rH12 p a, r11O a.C p.K p.th a.yc t.cl] w1 from by repeat (with_reducible first | exact HS.out | apply Sx.alloc | apply Sx.drewN | apply Sx.drew)) 1 (by simp)))
  have qy := hb.k22
  clear hb
  go_upto_region 12 with fail
  obtain ⟨w2, hwn⟩ : ∃ v, v = (w1).setCell ⟨y, 13, none⟩ (i64 (i1 : Int)) := ⟨_, rfl⟩
  rw [← hwn]
  have hs := hid (show Sx R w0 [Ass.blk y 83 (cs12 p a (((2 : Nat) : Int)) ((i1 : Int)) (pv) (av) (t.live) (t.err) (t.on) (t.ond)), refO B m t.W t.L, rP12 p a, rL12 p a, rH12 p a, r11O a.C p.K p.th a.yc t.cl] w2 from by rw [hwn]; exact (Sx.tr (show Sx R w0 [Ass.blk y 83 (cs12 p a (((2 : Nat) : Int)) ((t.at_ : Nat)) (pv) (av) (t.live) (t.err) (t.on) (t.ond)), refO B m t.W t.L, rP12 p a, rL12 p a, rH12 p a, r11O a.C p.K p.th a.yc t.cl] _ from (Sx.pick (show Sx R w0 [refO B m t.W t.L, Ass.blk y 83 (cs12 p a (((2 : Nat) : Int)) ((t.at_ : Nat)) (pv) (av) (t.live) (t.err) (t.on) (t.ond)), rP12 p a, rL12 p a, rH12 p a, r11O a.C p.K p.th a.yc t.cl] _ from by repeat (with_reducible first | exact HS.out | apply Sx.alloc | apply Sx.drewN | apply Sx.drew)) 1 (by simp))) (fun Rq hr => blk_store hr 13 (i64 (i1 : Int)))))
  clear HS hwn
  have HS := hs
  clear hs
  clear qy g1 y1
  have hs := hid (show Sx R w0 [refO B m t.W t.L, Ass.blk y 83 (cs12 p a (((2 : Nat) : Int)) ((i1 : Int)) (pv) (av) (t.live) (t.err) (t.on) (t.ond)), rP12 p a, rL12 p a, rH12 p a, r11O a.C p.K p.th a.yc t.cl] w2 from (Sx.pick (Sx.pick (Sx.pick (Sx.pick (Sx.pick (Sx.pick (show Sx R w0 [Ass.blk y 83 (cs12 p a (((2 : Nat) : Int)) ((i1 : Int)) (pv) (av) (t.live) (t.err) (t.on) (t.ond)), refO B m t.W t.L, rP12 p a, rL12 p a, rH12 p a, r11O a.C p.K p.th a.yc t.cl] w2 from by repeat (with_reducible first | exact HS.out | apply Sx.alloc | apply Sx.drewN | apply Sx.drew)) 5 (by simp)) 5 (by simp)) 5 (by simp)) 5 (by simp)) 4 (by simp)) 5 (by simp)))
  clear HS
  have HS := hs
  clear hs
  apply wp_region_text (WI := CA 20 (fun wx => Sx R w0 [refO B m t.W t.L, Ass.blk y 83 (cs12 p a (((2 : Nat) : Int)) ((i1 : Int)) (pv) (av) (t.live) (t.err) (t.on) (t.ond)), rP12 p a, rL12 p a, rH12 p a, r11O a.C p.K p.th a.yc t.cl] wx) (fun wx => Sx R w0 [refO B m (t.W.set (p.av (p.v i1)) (wrap64 (rd t.W (p.av (p.v i1)) + p.n))) (t.L ++ [⟨2, (p.av (p.v i1) : Nat), p.n, wrap64 (rd t.W (p.av (p.v i1)) + p.n), false⟩]), Ass.blk y 83 (cs12 p a (((2 : Nat) : Int)) ((i1 : Int)) (pv) (av) (t.live) (t.err) (t.on) (t.ond)), rP12 p a, rL12 p a, rH12 p a, r11O a.C p.K p.th a.yc t.cl] wx)) (by kernel_rfl) (by kernel_rfl)
  case hob =>
   iterate 4
    apply Oblig.cons
    case h =>
     intro S w1 hwi hSi hd hcl
     apply StepOk.intro
     intro K hK
     go_simp
     apply hK
     · rfl
     · conv => (lhs; whnf)
     · exact hwi.fixed (by decide)
    simp only [put_lit, put_none]
    try dsimp only [List.set_cons_succ, List.set_cons_zero]
   apply Oblig.cons
   case h =>
    intro S w1 hwi hSi hd hcl
    apply StepOk.intro
    intro K hK
    have hlast : S 20 = false := by
     cases h : S 20 with
     | false => rfl
     | true =>
      have h0 := (hcl 20 _ rfl h) ⟨15, .data⟩ (by simp) rfl
      have h1 := (hcl 15 _ rfl h0) ⟨4, .data⟩ (by simp) rfl
      rw [hSi] at h1
      cases h1
    obtain ⟨_, ⟨hb, _⟩, _⟩ := Sx.get (Sx.pick (hwi.1 hlast) 1 (by simp))
    obtain ⟨_, hrh, _⟩ := Sx.get (Sx.pick (hwi.1 hlast) 4 (by simp))
    have qy := hb.k22
    go_simp
    apply hK
    · rfl
    · conv => (lhs; whnf)
    · exact hwi.fixed (by decide)
   simp only [put_lit, put_none]
   try dsimp only [List.set_cons_succ, List.set_cons_zero]
   iterate 3
    apply Oblig.cons
    case h =>
     intro S w1 hwi hSi hd hcl
     apply StepOk.intro
     intro K hK
     go_simp
     apply hK
     · rfl
     · conv => (lhs; whnf)
     · exact hwi.fixed (by decide)
    simp only [put_lit, put_none]
    try dsimp only [List.set_cons_succ, List.set_cons_zero]
   apply Oblig.cons
   case h =>
    intro S w1 hwi hSi hd hcl
    apply StepOk.intro
    intro K hK
    have hlast : S 20 = false := by
     cases h : S 20 with
     | false => rfl
     | true =>
      have h0 := (hcl 20 _ rfl h) ⟨15, .data⟩ (by simp) rfl
      have h1 := (hcl 15 _ rfl h0) ⟨14, .data⟩ (by simp) rfl
      have h2 := (hcl 14 _ rfl h1) ⟨13, .data⟩ (by simp) rfl
      have h3 := (hcl 13 _ rfl h2) ⟨8, .data⟩ (by simp) rfl
      rw [hSi] at h3
      cases h3
    obtain ⟨_, ⟨hb, _⟩, _⟩ := Sx.get (Sx.pick (hwi.1 hlast) 1 (by simp))
    obtain ⟨_, hrh, _⟩ := Sx.get (Sx.pick (hwi.1 hlast) 4 (by simp))
    have qy := hb.k22
    go_simp
    apply hK
    · rfl
    · conv => (lhs; whnf)
    · exact hwi.fixed (by decide)
   simp only [put_lit, put_none]
   try dsimp only [List.set_cons_succ, List.set_cons_zero]
   iterate 3
    apply Oblig.cons
    case h =>
     intro S w1 hwi hSi hd hcl
     apply StepOk.intro
     intro K hK
     go_simp
     apply hK
     · rfl
     · conv => (lhs; whnf)
     · exact hwi.fixed (by decide)
    simp only [put_lit, put_none]
    try dsimp only [List.set_cons_succ, List.set_cons_zero]
   apply Oblig.cons
   case h =>
    intro S w1 hwi hSi hd hcl
    apply StepOk.intro
    intro K hK
    have hlast : S 20 = false := by
     cases h : S 20 with
     | false => rfl
     | true =>
      have h0 := (hcl 20 _ rfl h) ⟨15, .data⟩ (by simp) rfl
      have h1 := (hcl 15 _ rfl h0) ⟨14, .data⟩ (by simp) rfl
      have h2 := (hcl 14 _ rfl h1) ⟨13, .data⟩ (by simp) rfl
      have h3 := (hcl 13 _ rfl h2) ⟨12, .data⟩ (by simp) rfl
      rw [hSi] at h3
      cases h3
    obtain ⟨_, ⟨hb, _⟩, _⟩ := Sx.get (Sx.pick (hwi.1 hlast) 1 (by simp))
    obtain ⟨_, hrh, _⟩ := Sx.get (Sx.pick (hwi.1 hlast) 4 (by simp))
    have qy := hb.k22
    go_simp
    apply hK
    · rfl
    · conv => (lhs; whnf)
    · exact hwi.fixed (by decide)
   simp only [put_lit, put_none]
   try dsimp only [List.set_cons_succ, List.set_cons_zero]
   apply Oblig.cons
   case h =>
    intro S w1 hwi hSi hd hcl
    apply StepOk.intro
    intro K hK
    go_simp
    apply hK
    · rfl
    · conv => (lhs; whnf)
    · exact hwi.fixed (by decide)
   simp only [put_lit, put_none]
   try dsimp only [List.set_cons_succ, List.set_cons_zero]
   apply Oblig.cons
   case h =>
    intro S w1 hwi hSi hd hcl
    apply StepOk.intro
    intro K hK
    have hlast : S 20 = false := by
     cases h : S 20 with
     | false => rfl
     | true =>
      have h0 := (hcl 20 _ rfl h) ⟨15, .data⟩ (by simp) rfl
      have h1 := (hcl 15 _ rfl h0) ⟨14, .data⟩ (by simp) rfl
      rw [hSi] at h1
      cases h1
    obtain ⟨_, ⟨hb, _⟩, _⟩ := Sx.get (Sx.pick (hwi.1 hlast) 1 (by simp))
    obtain ⟨_, hrh, _⟩ := Sx.get (Sx.pick (hwi.1 hlast) 4 (by simp))
    have hcl := path_cell hrh (i := i1) hil
    have hcz := path_lt hrh (by omega)
    go_simp
    apply hK
    · rfl
    · conv => (lhs; whnf)
    · exact hwi.fixed (by decide)
   simp only [put_lit, put_none]
   try dsimp only [List.set_cons_succ, List.set_cons_zero]
   apply Oblig.cons
   case h =>
    intro S w1 hwi hSi hd hcl
    apply StepOk.intro
    intro K hK
    have hlast : S 20 = false := by
     cases h : S 20 with
     | false => rfl
     | true => exact absurd ((hcl 20 _ rfl h) ⟨15, .data⟩ (by simp) rfl) (by rw [hSi]; decide)
    go_simp
    refine (HAV.out _).mono ?_
    rintro e w2 ⟨rfl, hk⟩
    apply hK
    · rfl
    · conv => (lhs; whnf)
    · exact CA.mid hlast (by decide) ((hwi.1 hlast).keep hk)
   simp only [put_lit, put_none]
   try dsimp only [List.set_cons_succ, List.set_cons_zero]
   iterate 3
    apply Oblig.cons
    case h =>
     intro S w1 hwi hSi hd hcl
     apply StepOk.intro
     intro K hK
     go_simp
     apply hK
     · rfl
     · conv => (lhs; whnf)
     · exact hwi.fixed (by decide)
    simp only [put_lit, put_none]
    try dsimp only [List.set_cons_succ, List.set_cons_zero]
   apply Oblig.cons
   case h =>
    intro S w1 hwi hSi hd hcl
    apply StepOk.intro
    intro K hK
    have hlast : S 20 = false := by
     cases h : S 20 with
     | false => rfl
     | true => exact absurd ((hcl 20 _ rfl h) ⟨19, .data⟩ (by simp) rfl) (by rw [hSi]; decide)
    obtain ⟨_, ⟨hb, _⟩, _⟩ := Sx.get (Sx.pick (hwi.1 hlast) 1 (by simp))
    obtain ⟨_, hrh, _⟩ := Sx.get (Sx.pick (hwi.1 hlast) 4 (by simp))
    have qy := hb.k22
    go_simp
    apply hK
    · rfl
    · conv => (lhs; whnf)
    · exact hwi.fixed (by decide)
   simp only [put_lit, put_none]
   try dsimp only [List.set_cons_succ, List.set_cons_zero]
   apply Oblig.cons
   case h =>
    intro S w1 hwi hSi hd hcl
    apply StepOk.intro
    intro K hK
    go_simp
    refine Calls.mono (Sx.call (q := refO B m (t.W.set (p.av (p.v i1)) (wrap64 (rd t.W (p.av (p.v i1)) + p.n))) (t.L ++ [⟨2, (p.av (p.v i1) : Nat), p.n, wrap64 (rd t.W (p.av (p.v i1)) + p.n), false⟩])) (hwi.1 hSi) (fun Rq hr _ => refO_Add (p.av (p.v i1)) p.n hr (by omega) (by omega) hL)) ?_
    rintro e w2 ⟨rfl, hs⟩
    apply hK
    · rfl
    · conv => (lhs; whnf)
    · exact CA.done hs
   simp only [put_lit, put_none]
   try dsimp only [List.set_cons_succ, List.set_cons_zero]
   exact Oblig.nil
  case h0 =>
   exact ⟨fun _ => HS.out.drew, (fun h => by cases h)⟩
  case hend =>
   intro S wx hwi hall
   have hs0 := hwi.2 (hall 20 (by decide))
   obtain ⟨w3, hwn⟩ : ∃ v, v = wx := ⟨_, rfl⟩
   rw [← hwn] at hs0 ⊢
   have hs := hid (show Sx R w0 [refO B m (t.W.set (p.av (p.v i1)) (wrap64 (rd t.W (p.av (p.v i1)) + p.n))) (t.L ++ [⟨2, (p.av (p.v i1) : Nat), p.n, wrap64 (rd t.W (p.av (p.v i1)) + p.n), false⟩]), Ass.blk y 83 (cs12 p a (((2 : Nat) : Int)) ((i1 : Int)) (pv) (av) (t.live) (t.err) (t.on) (t.ond)), rP12 p a, rL12 p a, rH12 p a, r11O a.C p.K p.th a.yc t.cl] w3 from hs0)
   clear hwi hall hs0 hwn HS
   have HS := hs
   clear hs
   obtain ⟨_, ⟨hb, _⟩, _⟩ := Sx.get (show Sx R w0 [Ass.blk y 83 (cs12 p a (((2 : Nat) : Int)) ((i1 : Int)) (pv) (av) (t.live) (t.err) (t.on) (t.ond)), refO B m (t.W.set (p.av (p.v i1)) (wrap64 (rd t.W (p.av (p.v i1)) + p.n))) (t.L ++ [⟨2, (p.av (p.v i1) : Nat), p.n, wrap64 (rd t.W (p.av (p.v i1)) + p.n), false⟩]), rP12 p a, rL12 p a, rH12 p a, r11O a.C p.K p.th a.yc t.cl] w3 from (Sx.pick (show Sx R w0 [refO B m (t.W.set (p.av (p.v i1)) (wrap64 (rd t.W (p.av (p.v i1)) + p.n))) (t.L ++ [⟨2, (p.av (p.v i1) : Nat), p.n, wrap64 (rd t.W (p.av (p.v i1)) + p.n), false⟩]), Ass.blk y 83 (cs12 p a (((2 : Nat) : Int)) ((i1 : Int)) (pv) (av) (t.live) (t.err) (t.on) (t.ond)), rP12 p a, rL12 p a, rH12 p a, r11O a.C p.K p.th a.yc t.cl] w3 from by repeat (with_reducible first | exact HS.out | apply Sx.alloc | apply Sx.drewN | apply Sx.drew)) 1 (by simp)))
   have qy := hb.k22
   clear hb
   go_wp2_with fail
   go_ret
   exact ⟨rfl, HS.out⟩
set_option maxHeartbeats 4000000 in
theorem r12_step2z (hp : P12OK p) (hn : t.cl.n < p.K) (htk : t.tk p < t.W.length) (hW : t.W.length ≤ 10000) (hL : t.L.length ≤ 1000000000) (h : (stars (refO B m t.W t.L :: [Ass.blk y 83 (cs12 p a (((2 : Nat) : Int)) (0) (pv) (av) (t.live) (t.err) (t.on) (t.ond)), rP12 p a, rL12 p a, rH12 p a, r11O a.C p.K p.th a.yc t.cl])).At R w) :
 Calls Tryz.prog 12 #[ptr y, ptr m] w fun e w' => e = .returned (.bool true) ∧ Tr (stars ((refO B m (t.W.set (t.tk p) (pNext6 t.cl.set 0)) (t.L ++ [⟨4, (t.tk p : Nat), pNext6 t.cl.set 0, 0, false⟩])) :: [Ass.blk y 83 (cs12 p a (((6 : Nat) : Int)) (0) (pv) (av) (t.live) (t.err) (t.on) (t.ond)), rP12 p a, rL12 p a, rH12 p a, r11O a.C p.K p.th a.yc t.cl])) R w w' := by
 obtain ⟨w0, hw0⟩ : ∃ v, v = w := ⟨_, rfl⟩
 rw [← hw0] at h ⊢
 have HS := hid (show Sx R w0 [refO B m t.W t.L, Ass.blk y 83 (cs12 p a (((2 : Nat) : Int)) (0) (pv) (av) (t.live) (t.err) (t.on) (t.ond)), rP12 p a, rL12 p a, rH12 p a, r11O a.C p.K p.th a.yc t.cl] w0 from Sx.start h)
 clear h hw0
 have hs8 := hp.s8
 have hp1 := hp.p1
 have hk1 := hp.k1
 obtain ⟨ae, hae⟩ : ∃ ae : Int, ae = (if t.cl.fin = 2 then 3 else 0) := ⟨_, rfl⟩
 have HAE := hid hae
 clear hae
 have htk0 := fun w' => ref_Ticket p.tt p.s p.g p.lm p.r p.K (some ⟨a.pb, 0, none⟩) p.P.length a.pc (some ⟨a.lb, 0, none⟩) p.LL.length a.lc (t.cl.n : Int) w' (by omega) (by omega) (by omega) (by omega) (by omega)
 rw [show (p.P.length : Int) * (6 + 2 * (p.s : Int)) + 2 * (t.cl.n : Int) = ((t.tk p : Nat) : Int) from by unfold S12.tk P12.q; push_cast; rfl] at htk0
 have HTK := hid htk0
 clear htk0
 go_enter Tryz.func12, Tryz.ntmps12
 go_upto_region 1 with fail
 apply wp_region_text (WI := fun S wx => Keep0 w0 wx) (by kernel_rfl) (by kernel_rfl)
 case hob =>
  iterate 8
   apply Oblig.cons
   case h =>
    intro S w1 hwi hSi hd hcl
    apply StepOk.intro
    intro K hK
    obtain ⟨_, ⟨hb, _⟩, _⟩ := Sx.get (Sx.pick (Sx.keep HS.out hwi) 1 (by simp))
    have qy := hb.k22
    clear hb
    obtain ⟨_, ⟨hcl, _⟩, _⟩ := Sx.get (Sx.pick (Sx.keep HS.out hwi) 5 (by simp))
    go_simp
    apply hK
    · rfl
    · conv => (lhs; whnf)
    · exact hwi
   simp only [put_lit, put_none]
   try dsimp only [List.set_cons_succ, List.set_cons_zero]
  apply Oblig.cons
  case h =>
   intro S w1 hwi hSi hd hcl
   apply StepOk.intro
   intro K hK
   obtain ⟨_, ⟨hb, _⟩, _⟩ := Sx.get (Sx.pick (Sx.keep HS.out hwi) 1 (by simp))
   have qy := hb.k22
   clear hb
   obtain ⟨_, ⟨hcl, _⟩, _⟩ := Sx.get (Sx.pick (Sx.keep HS.out hwi) 5 (by simp))
   go_simp
   refine (show Calls Tryz.prog 48 _ w1 (Ret (.agg #[i64 ae, i64 (t.cl.n : Int), .bool false, i64 0]) w1) from by have h := r11_Ans t.cl hcl; unfold clAns at h; rw [← HAE.out] at h; exact h).mono ?_
   rintro e w2 ⟨rfl, hk⟩
   apply hK
   · rfl
   · conv => (lhs; whnf)
   · exact Keep0.step hwi hk
  simp only [put_lit, put_none]
  try dsimp only [List.set_cons_succ, List.set_cons_zero]
  apply Oblig.cons
  case h =>
   intro S w1 hwi hSi hd hcl
   apply StepOk.intro
   intro K hK
   obtain ⟨_, ⟨hb, _⟩, _⟩ := Sx.get (Sx.pick (Sx.keep HS.out hwi) 1 (by simp))
   have qy := hb.k22
   clear hb
   obtain ⟨_, ⟨hcl, _⟩, _⟩ := Sx.get (Sx.pick (Sx.keep HS.out hwi) 5 (by simp))
   go_simp
   apply hK
   · rfl
   · conv => (lhs; whnf)
   · exact hwi
  simp only [put_lit, put_none]
  try dsimp only [List.set_cons_succ, List.set_cons_zero]
  apply Oblig.cons
  case h =>
   intro S w1 hwi hSi hd hcl
   apply StepOk.intro
   intro K hK
   go_simp
   refine (HTK.out _).mono ?_
   rintro e w2 ⟨rfl, hk⟩
   apply hK
   · rfl
   · conv => (lhs; whnf)
   · exact Keep0.step hwi hk
  simp only [put_lit, put_none]
  try dsimp only [List.set_cons_succ, List.set_cons_zero]
  apply Oblig.cons
  case h =>
   intro S w1 hwi hSi hd hcl
   apply StepOk.intro
   intro K hK
   obtain ⟨_, ⟨hb, _⟩, _⟩ := Sx.get (Sx.pick (Sx.keep HS.out hwi) 1 (by simp))
   have qy := hb.k22
   clear hb
   obtain ⟨_, ⟨hcl, _⟩, _⟩ := Sx.get (Sx.pick (Sx.keep HS.out hwi) 5 (by simp))
   go_simp
   apply hK
   · rfl
   · conv => (lhs; whnf)
   · exact hwi
  simp only [put_lit, put_none]
  try dsimp only [List.set_cons_succ, List.set_cons_zero]
  exact Oblig.nil
 case h0 =>
  exact (Keep.refl _ _).drew
 case hend =>
  intro S wx hwi hall
  have hkx := hwi
  obtain ⟨w1, hwn⟩ : ∃ v, v = wx := ⟨_, rfl⟩
  rw [← hwn] at hkx ⊢
  have hs := hid (show Sx R w0 [refO B m t.W t.L, Ass.blk y 83 (cs12 p a (((2 : Nat) : Int)) (0) (pv) (av) (t.live) (t.err) (t.on) (t.ond)), rP12 p a, rL12 p a, rH12 p a, r11O a.C p.K p.th a.yc t.cl] w1 from Sx.keep HS.out hkx)
  clear hwi hall hkx hwn HS
  have HS := hs
  clear hs
  obtain ⟨_, ⟨hb, _⟩, _⟩ := Sx.get (show Sx R w0 [Ass.blk y 83 (cs12 p a (((2 : Nat) : Int)) (0) (pv) (av) (t.live) (t.err) (t.on) (t.ond)), refO B m t.W t.L, rP12 p a, rL12 p a, rH12 p a, r11O a.C p.K p.th a.yc t.cl] w1 from (Sx.pick (show Sx R w0 [refO B m t.W t.L, Ass.blk y 83 (cs12 p a (((2 : Nat) : Int)) (0) (pv) (av) (t.live) (t.err) (t.on) (t.ond)), rP12 p a, rL12 p a, rH12 p a, r11O a.C p.K p.th a.yc t.cl] w1 from by repeat (with_reducible first | exact HS.out | apply Sx.alloc | apply Sx.drewN | apply Sx.drew)) 1 (by simp)))
  have qy := hb.k22
  clear hb
  obtain ⟨_, ⟨hcl, _⟩, _⟩ := Sx.get (show Sx R w0 [r11O a.C p.K p.th a.yc t.cl, refO B m t.W t.L, Ass.blk y 83 (cs12 p a (((2 : Nat) : Int)) (0) (pv) (av) (t.live) (t.err) (t.on) (t.ond)), rP12 p a, rL12 p a, rH12 p a] w1 from (Sx.pick (show Sx R w0 [refO B m t.W t.L, Ass.blk y 83 (cs12 p a (((2 : Nat) : Int)) (0) (pv) (av) (t.live) (t.err) (t.on) (t.ond)), rP12 p a, rL12 p a, rH12 p a, r11O a.C p.K p.th a.yc t.cl] w1 from by repeat (with_reducible first | exact HS.out | apply Sx.alloc | apply Sx.drewN | apply Sx.drew)) 5 (by simp)))
  have HWD := hid (r11_Word t.cl hcl)
  clear hcl
  go_wp2_with fail
  refine Calls.mono (HWD.out) ?_
  rintro e w2 ⟨rfl, hk⟩
  have hs := Sx.keep (show Sx R w0 [refO B m t.W t.L, Ass.blk y 83 (cs12 p a (((2 : Nat) : Int)) (0) (pv) (av) (t.live) (t.err) (t.on) (t.ond)), rP12 p a, rL12 p a, rH12 p a, r11O a.C p.K p.th a.yc t.cl] _ from by repeat (with_reducible first | exact HS.out | apply Sx.alloc | apply Sx.drewN | apply Sx.drew)) hk
  clear HS
  have HS := hid (show Sx R w0 [refO B m t.W t.L, Ass.blk y 83 (cs12 p a (((2 : Nat) : Int)) (0) (pv) (av) (t.live) (t.err) (t.on) (t.ond)), rP12 p a, rL12 p a, rH12 p a, r11O a.C p.K p.th a.yc t.cl] w2 from hs)
  clear hs hk
  clear qy HWD
  obtain ⟨_, ⟨hb, _⟩, _⟩ := Sx.get (show Sx R w0 [Ass.blk y 83 (cs12 p a (((2 : Nat) : Int)) (0) (pv) (av) (t.live) (t.err) (t.on) (t.ond)), refO B m t.W t.L, rP12 p a, rL12 p a, rH12 p a, r11O a.C p.K p.th a.yc t.cl] w2 from (Sx.pick (show Sx R w0 [refO B m t.W t.L, Ass.blk y 83 (cs12 p a (((2 : Nat) : Int)) (0) (pv) (av) (t.live) (t.err) (t.on) (t.ond)), rP12 p a, rL12 p a, rH12 p a, r11O a.C p.K p.th a.yc t.cl] w2 from by repeat (with_reducible first | exact HS.out | apply Sx.alloc | apply Sx.drewN | apply Sx.drew)) 1 (by simp)))
  have qy := hb.k22
  clear hb
  go_wp2_with fail
  refine Calls.mono (ref10_TurnN t.cl.set 0 _ (by omega)) ?_
  rintro e wq ⟨rfl, rfl⟩
  go_wp2_with fail
  refine Calls.mono (Sx.call (q := refO B m (t.W.set (t.tk p) (pNext6 t.cl.set 0)) (t.L ++ [⟨4, (t.tk p : Nat), pNext6 t.cl.set 0, 0, false⟩])) (show Sx R w0 [refO B m t.W t.L, Ass.blk y 83 (cs12 p a (((2 : Nat) : Int)) (0) (pv) (av) (t.live) (t.err) (t.on) (t.ond)), rP12 p a, rL12 p a, rH12 p a, r11O a.C p.K p.th a.yc t.cl] _ from (show Sx R w0 [refO B m t.W t.L, Ass.blk y 83 (cs12 p a (((2 : Nat) : Int)) (0) (pv) (av) (t.live) (t.err) (t.on) (t.ond)), rP12 p a, rL12 p a, rH12 p a, r11O a.C p.K p.th a.yc t.cl] _ from by repeat (with_reducible first | exact HS.out | apply Sx.alloc | apply Sx.drewN | apply Sx.drew))) (fun Rq hr hz => refO_Store (t.tk p) (pNext6 t.cl.set 0) hr (by omega) (by omega) hL)) ?_
  rintro e w3 ⟨rfl, hs⟩
  clear HS
  have HS := hid (show Sx R w0 [refO B m (t.W.set (t.tk p) (pNext6 t.cl.set 0)) (t.L ++ [⟨4, (t.tk p : Nat), pNext6 t.cl.set 0, 0, false⟩]), Ass.blk y 83 (cs12 p a (((2 : Nat) : Int)) (0) (pv) (av) (t.live) (t.err) (t.on) (t.ond)), rP12 p a, rL12 p a, rH12 p a, r11O a.C p.K p.th a.yc t.cl] w3 from hs)
  clear hs
  clear qy
  obtain ⟨_, ⟨hb, _⟩, _⟩ := Sx.get (show Sx R w0 [Ass.blk y 83 (cs12 p a (((2 : Nat) : Int)) (0) (pv) (av) (t.live) (t.err) (t.on) (t.ond)), refO B m (t.W.set (t.tk p) (pNext6 t.cl.set 0)) (t.L ++ [⟨4, (t.tk p : Nat), pNext6 t.cl.set 0, 0, false⟩]), rP12 p a, rL12 p a, rH12 p a, r11O a.C p.K p.th a.yc t.cl] w3 from (Sx.pick (show Sx R w0 [refO B m (t.W.set (t.tk p) (pNext6 t.cl.set 0)) (t.L ++ [⟨4, (t.tk p : Nat), pNext6 t.cl.set 0, 0, false⟩]), Ass.blk y 83 (cs12 p a (((2 : Nat) : Int)) (0) (pv) (av) (t.live) (t.err) (t.on) (t.ond)), rP12 p a, rL12 p a, rH12 p a, r11O a.C p.K p.th a.yc t.cl] w3 from by repeat (with_reducible first | exact HS.out | apply Sx.alloc | apply Sx.drewN | apply Sx.drew)) 1 (by simp)))
  have qy := hb.k22
  clear hb
  go_wp2_with fail
  go_ret
  exact ⟨rfl, Sx.pick (show Sx R w0 [Ass.blk y 83 (cs12 p a (((6 : Nat) : Int)) (0) (pv) (av) (t.live) (t.err) (t.on) (t.ond)), refO B m (t.W.set (t.tk p) (pNext6 t.cl.set 0)) (t.L ++ [⟨4, (t.tk p : Nat), pNext6 t.cl.set 0, 0, false⟩]), rP12 p a, rL12 p a, rH12 p a, r11O a.C p.K p.th a.yc t.cl] _ from (Sx.tr (show Sx R w0 [Ass.blk y 83 (cs12 p a (((2 : Nat) : Int)) (0) (pv) (av) (t.live) (t.err) (t.on) (t.ond)), refO B m (t.W.set (t.tk p) (pNext6 t.cl.set 0)) (t.L ++ [⟨4, (t.tk p : Nat), pNext6 t.cl.set 0, 0, false⟩]), rP12 p a, rL12 p a, rH12 p a, r11O a.C p.K p.th a.yc t.cl] _ from (Sx.pick (show Sx R w0 [refO B m (t.W.set (t.tk p) (pNext6 t.cl.set 0)) (t.L ++ [⟨4, (t.tk p : Nat), pNext6 t.cl.set 0, 0, false⟩]), Ass.blk y 83 (cs12 p a (((2 : Nat) : Int)) (0) (pv) (av) (t.live) (t.err) (t.on) (t.ond)), rP12 p a, rL12 p a, rH12 p a, r11O a.C p.K p.th a.yc t.cl] _ from by repeat (with_reducible first | exact HS.out | apply Sx.alloc | apply Sx.drewN | apply Sx.drew)) 1 (by simp))) (fun Rq hr => blk_store hr 12 (i64 6)))) 1 (by simp)⟩
end
end Go.Proofs.YthaceckccobgeaaGreat
