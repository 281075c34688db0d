/- Contracts and plain laws for UsageWay, part 10: what the walk of the law leans on. -/
import Derived.Deep.DeepCutAuto
import Derived.Deep.LoopGhost
import Derived.Test.YthaceckccobgeaaGreatZUsageWay4
import Derived.Test.YthaceckccobgeaaGreatZUsageWay5
import Derived.Test.YthaceckccobgeaaGreatZUsageWay6
import Derived.Test.YthaceckccobgeaaGreatZUsageWay9
namespace Go.Proofs.YthaceckccobgeaaGreat
open Go.RowKit
set_option linter.unusedVariables false
set_option linter.unusedSimpArgs false
set_option maxRecDepth 100000
theorem with_nw {α : Type} {w w' : World} {x : α} {f : α → Ass} {g : α → Value} {v : Value} (h : Nw (f x) w w') (e : v = g x) : Nw (Ass.ex fun x' : α => (f x').with_ (v = g x')) w w' := by
 obtain ⟨R, h1, h2, h3⟩ := h
 exact ⟨R, ⟨x, h1, e⟩, h2, h3⟩
theorem r11O_New (t s g l r : Int) (K st : Nat) (P L : List Int) (pb po lb lo pc lc : Nat) (w : World) (q : Nat) (hp : P.length ≤ 1000) (hl : L.length ≤ 1000)
 (hP : ∀ i, i < P.length → w.cell? ⟨pb, po + i, none⟩ = some (i64 (rd P i))) (hL : ∀ i, i < L.length → w.cell? ⟨lb, lo + i, none⟩ = some (i64 (rd L i))) (hq : (q : Int) = P.length * (6 + 2 * s)) (hs : 1 ≤ s ∧ s ≤ 8) :
 Calls Tryz.prog 46 #[.agg #[i64 t, i64 s, i64 g, i64 l, i64 r, i64 (K : Int), .slice (some ⟨pb, po, none⟩) P.length pc, .slice (some ⟨lb, lo, none⟩) L.length lc], i64 (st : Int)] w fun e w' => ∃ x : Nat × CC, e = .returned (ptr x.1) ∧ Nw ((r11O x.2 K st x.1 ⟨[], [], 0, false, 0, 0, 0, 0⟩).with_ (COk x.2 K q K)) w w' := by
 refine (r11_New0 t s g l r K st P L pb po lb lo pc lc w hp hl hP hL).mono ?_
 rintro e w' ⟨y, PA, pc', LA, lc', rfl, hz, hk, hb⟩
 exact ⟨(y, ⟨t, s, g, l, r, PA, P.length, pc', LA, L.length, lc'⟩), rfl, fun k => k = y, ⟨⟨hb [] [], fun k => Iff.rfl⟩, ⟨hq, hs, hp, Nat.le_refl _⟩⟩, hk, fun k h => by subst h; exact hz⟩
def QA (p : P12) (v : Value) : Ass := Ass.ex fun x : Option Addr × Nat × Option Addr × Nat => (stars [rowO 3 1 (.slice x.1 p.P.length x.2.1) p.P.length (ints p.P), rowO 3 1 (.slice x.2.2.1 p.LL.length x.2.2.2) p.LL.length (ints p.LL)]).with_ (v = .agg #[i64 p.tt, i64 (p.s : Int), i64 p.g, i64 p.lm, i64 p.r, i64 (p.K : Int), .slice x.1 p.P.length x.2.1, .slice x.2.2.1 p.LL.length x.2.2.2])
def QB (p : P12) (v : Value) : Ass := Ass.ex fun x : Option Addr × Nat => (rowO 3 1 (.slice x.1 p.path.length x.2) p.path.length (ints (nats p.path))).with_ (v = .slice x.1 p.path.length x.2)
def QC (p : P12) (v : Value) : Ass := Ass.ex fun x : Nat × CC => ((r11O x.2 p.K p.th x.1 ⟨[], [], 0, false, 0, 0, 0, 0⟩).with_ (COk x.2 p.K p.q p.K)).with_ (v = ptr x.1)
def onO (b : Bool) (q : Ass) : Ass := if b then q else Ass.emp
structure NW12 (w0 : World) (b : Nat) (cs : List Value) (qa qb qc : Value → Ass) (qd : Value → Value → Value → Value → Ass) (F : Value → Value → Value → Value) (S : Nat → Bool) (gh : Nat → Value) (wx : World) : Prop where
 st : St w0 [onO (S 1) (qa (gh 1)), onO (S 7) (qb (gh 7)), onO (S 10) (qc (gh 10)), onO (S 12) (qd (gh 1) (gh 7) (gh 10) (gh 12))] wx
 bx : Blk wx b 24 cs
 v11 : S 11 = true → gh 11 = F (gh 1) (gh 7) (gh 10)
 v13 : S 13 = true → gh 13 = gh 12
theorem St.emp {w0 w : World} {l : List Ass} (h : St w0 l w) : St w0 (Ass.emp :: l) w := h.nw ⟨fun _ => False, fun _ h => h, Keep.refl _ _, fun _ h => h.elim⟩
theorem St.put {w0 w w' : World} {l : List Ass} {q : Ass} (h : St w0 l w) (i : Nat) (hi : i < l.length) (hn : Nw q w w') : St w0 (l.set i q) w' := by
 have h1 := (h.pick i hi).drop.nw hn
 refine h1.perm (List.Perm.symm ?_)
 have h2 := pick_perm (l.set i q) i (by simpa using hi)
 simpa [List.eraseIdx_set_eq] using h2
section
variable {w0 wx w' : World} {b : Nat} {cs : List Value} {qa qb qc : Value → Ass} {qd : Value → Value → Value → Value → Ass} {F : Value → Value → Value → Value} {S : Nat → Bool} {gh : Nat → Value}
theorem NW12.k (h : NW12 w0 b cs qa qb qc qd F S gh wx) : Keep0 w0 wx := h.st.k
theorem NW12.start {gh : Nat → Value} (h : Keep0 w0 wx) (hb : Blk wx b 24 cs) : NW12 w0 b cs qa qb qc qd F (fun _ => false) gh wx :=
 ⟨(((((St.nil h).emp).emp).emp).emp), hb, fun h => (by cases h), fun h => (by cases h)⟩
theorem NW12.fixed {i : Nat} (h : NW12 w0 b cs qa qb qc qd F S gh wx) (hi : i ≠ 1 ∧ i ≠ 7 ∧ i ≠ 10 ∧ i ≠ 11 ∧ i ≠ 12 ∧ i ≠ 13) : NW12 w0 b cs qa qb qc qd F (upd S i) gh wx := by
 obtain ⟨h1, h7, h10, h11, h12, h13⟩ := hi
 have e : ∀ j, i ≠ j → upd S i j = S j := fun j hj => by simp [upd, Ne.symm hj]
 exact ⟨by rw [e 1 h1, e 7 h7, e 10 h10, e 12 h12]; exact h.st, h.bx, by rw [e 11 h11]; exact h.v11, by rw [e 13 h13]; exact h.v13⟩
theorem NW12.made1 (h : NW12 w0 b cs qa qb qc qd F S gh wx) (_ : S 1 = false) (h11 : S 11 = false) (h12 : S 12 = false) (v : Value) (hn : Nw (qa v) wx w') : NW12 w0 b cs qa qb qc qd F (upd S 1) (updv gh 1 v) w' := by
 have e : ∀ j, 1 ≠ j → upd S 1 j = S j := fun j hj => by simp [upd, Ne.symm hj]
 have g : ∀ j, 1 ≠ j → updv gh 1 v j = gh j := fun j hj => updv_ne (Ne.symm hj)
 obtain ⟨_, _, hk, _⟩ := id hn
 refine ⟨?_, hk.blk h.bx (fun h => h), by rw [e 11 (by decide), h11]; exact fun h => (by cases h), by rw [e 13 (by decide), g 13 (by decide), g 12 (by decide)]; exact h.v13⟩
 have hs := h.st.put 0 (by simp) hn
 rw [e 7 (by decide), e 10 (by decide), e 12 (by decide), g 7 (by decide), g 10 (by decide), g 12 (by decide), show upd S 1 1 = true from by simp [upd], updv_same]
 simp only [h12] at hs ⊢
 exact hs
theorem NW12.made7 (h : NW12 w0 b cs qa qb qc qd F S gh wx) (_ : S 7 = false) (h11 : S 11 = false) (h12 : S 12 = false) (v : Value) (hn : Nw (qb v) wx w') : NW12 w0 b cs qa qb qc qd F (upd S 7) (updv gh 7 v) w' := by
 have e : ∀ j, 7 ≠ j → upd S 7 j = S j := fun j hj => by simp [upd, Ne.symm hj]
 have g : ∀ j, 7 ≠ j → updv gh 7 v j = gh j := fun j hj => updv_ne (Ne.symm hj)
 obtain ⟨_, _, hk, _⟩ := id hn
 refine ⟨?_, hk.blk h.bx (fun h => h), by rw [e 11 (by decide), h11]; exact fun h => (by cases h), by rw [e 13 (by decide), g 13 (by decide), g 12 (by decide)]; exact h.v13⟩
 have hs := h.st.put 1 (by simp) hn
 rw [e 1 (by decide), e 10 (by decide), e 12 (by decide), g 1 (by decide), g 10 (by decide), g 12 (by decide), show upd S 7 7 = true from by simp [upd], updv_same]
 simp only [h12] at hs ⊢
 exact hs
theorem NW12.made10 (h : NW12 w0 b cs qa qb qc qd F S gh wx) (_ : S 10 = false) (h11 : S 11 = false) (h12 : S 12 = false) (v : Value) (hn : Nw (qc v) wx w') : NW12 w0 b cs qa qb qc qd F (upd S 10) (updv gh 10 v) w' := by
 have e : ∀ j, 10 ≠ j → upd S 10 j = S j := fun j hj => by simp [upd, Ne.symm hj]
 have g : ∀ j, 10 ≠ j → updv gh 10 v j = gh j := fun j hj => updv_ne (Ne.symm hj)
 obtain ⟨_, _, hk, _⟩ := id hn
 refine ⟨?_, hk.blk h.bx (fun h => h), by rw [e 11 (by decide), h11]; exact fun h => (by cases h), by rw [e 13 (by decide), g 13 (by decide), g 12 (by decide)]; exact h.v13⟩
 have hs := h.st.put 2 (by simp) hn
 rw [e 1 (by decide), e 7 (by decide), e 12 (by decide), g 1 (by decide), g 7 (by decide), g 12 (by decide), show upd S 10 10 = true from by simp [upd], updv_same]
 simp only [h12] at hs ⊢
 exact hs
theorem NW12.done11 (h : NW12 w0 b cs qa qb qc qd F S gh wx) {v : Value} (hv : v = F (gh 1) (gh 7) (gh 10)) : NW12 w0 b cs qa qb qc qd F (upd S 11) (updv gh 11 v) wx := by
 have e : ∀ j, 11 ≠ j → upd S 11 j = S j := fun j hj => by simp [upd, Ne.symm hj]
 have g : ∀ j, 11 ≠ j → updv gh 11 v j = gh j := fun j hj => updv_ne (Ne.symm hj)
 refine ⟨?_, h.bx, fun _ => by rw [updv_same, g 1 (by decide), g 7 (by decide), g 10 (by decide)]; exact hv, by rw [e 13 (by decide), g 13 (by decide), g 12 (by decide)]; exact h.v13⟩
 rw [e 1 (by decide), e 7 (by decide), e 10 (by decide), e 12 (by decide), g 1 (by decide), g 7 (by decide), g 10 (by decide), g 12 (by decide)]
 exact h.st
theorem NW12.made12 (h : NW12 w0 b cs qa qb qc qd F S gh wx) (_ : S 12 = false) (h13 : S 13 = false) (v : Value) (hn : Nw (qd (gh 1) (gh 7) (gh 10) v) wx w') : NW12 w0 b cs qa qb qc qd F (upd S 12) (updv gh 12 v) w' := by
 have e : ∀ j, 12 ≠ j → upd S 12 j = S j := fun j hj => by simp [upd, Ne.symm hj]
 have g : ∀ j, 12 ≠ j → updv gh 12 v j = gh j := fun j hj => updv_ne (Ne.symm hj)
 obtain ⟨_, _, hk, _⟩ := id hn
 refine ⟨?_, hk.blk h.bx (fun h => h), by rw [e 11 (by decide), g 11 (by decide), g 1 (by decide), g 7 (by decide), g 10 (by decide)]; exact h.v11, by rw [e 13 (by decide), h13]; exact fun h => (by cases h)⟩
 have hs := h.st.put 3 (by simp) hn
 rw [e 1 (by decide), e 7 (by decide), e 10 (by decide), g 1 (by decide), g 7 (by decide), g 10 (by decide), show upd S 12 12 = true from by simp [upd], updv_same]
 exact hs
theorem NW12.done13 (h : NW12 w0 b cs qa qb qc qd F S gh wx) {v : Value} (hv : v = gh 12) : NW12 w0 b cs qa qb qc qd F (upd S 13) (updv gh 13 v) wx := by
 have e : ∀ j, 13 ≠ j → upd S 13 j = S j := fun j hj => by simp [upd, Ne.symm hj]
 have g : ∀ j, 13 ≠ j → updv gh 13 v j = gh j := fun j hj => updv_ne (Ne.symm hj)
 refine ⟨?_, h.bx, by rw [e 11 (by decide), g 11 (by decide), g 1 (by decide), g 7 (by decide), g 10 (by decide)]; exact h.v11, fun _ => by rw [updv_same, g 12 (by decide)]; exact hv⟩
 rw [e 1 (by decide), e 7 (by decide), e 10 (by decide), e 12 (by decide), g 1 (by decide), g 7 (by decide), g 10 (by decide), g 12 (by decide)]
 exact h.st
theorem NW12.isA {P : Value → Prop} (h : NW12 w0 b cs qa qb qc qd F S gh wx) (hP : ∀ v R, (qa v).At R wx → P v) (hs : S 1 = true) : P (gh 1) := by
 obtain ⟨R, hR, _⟩ := (h.st.pick 0 (by simp)).get
 refine hP _ R ?_
 have e : onO (S 1) (qa (gh 1)) = qa (gh 1) := by rw [hs]; rfl
 exact e ▸ hR
theorem NW12.isB {P : Value → Prop} (h : NW12 w0 b cs qa qb qc qd F S gh wx) (hP : ∀ v R, (qb v).At R wx → P v) (hs : S 7 = true) : P (gh 7) := by
 obtain ⟨R, hR, _⟩ := (h.st.pick 1 (by simp)).get
 refine hP _ R ?_
 have e : onO (S 7) (qb (gh 7)) = qb (gh 7) := by rw [hs]; rfl
 exact e ▸ hR
theorem NW12.isC {P : Value → Prop} (h : NW12 w0 b cs qa qb qc qd F S gh wx) (hP : ∀ v R, (qc v).At R wx → P v) (hs : S 10 = true) : P (gh 10) := by
 obtain ⟨R, hR, _⟩ := (h.st.pick 2 (by simp)).get
 refine hP _ R ?_
 have e : onO (S 10) (qc (gh 10)) = qc (gh 10) := by rw [hs]; rfl
 exact e ▸ hR
end
theorem row_kept {w w' : World} {b o : Nat} {l : List Int} (hk : Keep0 w w') (h : ∀ i, i < l.length → w.cell? ⟨b, o + i, none⟩ = some (i64 (rd l i))) : ∀ i, i < l.length → w'.cell? ⟨b, o + i, none⟩ = some (i64 (rd l i)) := by
 intro i hi
 rw [cell_old hk (by have := World.block_lt_of_cell? _ _ (h i hi); simpa using this) (fun h => h)]
 exact h i hi
def aggL : Value → List Value
 | .agg a => a.toList
 | _ => []
def M12 (p : P12) (u h c : Value) : List Value := aggL u ++ [i64 (p.nd : Int), i64 p.n, i64 (p.th : Int), h, i64 0, i64 0, c, .pointer none, .pointer none, i64 0, i64 0, i64 0, .bool false, i64 0]
def QD (p : P12) (u h c v : Value) : Ass := Ass.ex fun y : Nat => (Ass.blk y 83 (M12 p u h c)).with_ (v = ptr y)
def F12 (p : P12) (u h c : Value) : Value := .agg (M12 p u h c).toArray
theorem St.exO {α : Type} {w0 w : World} {f : α → Ass} {l : List Ass} (h : St w0 (Ass.ex f :: l) w) : ∃ x, St w0 (f x :: l) w := by
 obtain ⟨h1, U, ⟨R, V, ⟨x, hx⟩, hv, hd, e⟩, h3⟩ := h
 exact ⟨x, h1, U, ⟨R, V, hx, hv, hd, e⟩, h3⟩
theorem St.withO {w0 w : World} {q : Ass} {P : Prop} {l : List Ass} (h : St w0 (q.with_ P :: l) w) : P ∧ St w0 (q :: l) w := by
 obtain ⟨h1, U, ⟨R, V, ⟨hx, hP⟩, hv, hd, e⟩, h3⟩ := h
 exact ⟨hP, h1, U, ⟨R, V, hx, hv, hd, e⟩, h3⟩
theorem new_fold {p : P12} {w w' : World} {y : Nat} {x1 : Option Addr × Nat × Option Addr × Nat} {x7 : Option Addr × Nat} {x10 : Nat × CC} {W : List Int} {L : List Acc} (hp : P12OK p)
 (h : St w [Ass.blk y 83 [i64 p.tt, i64 (p.s : Int), i64 p.g, i64 p.lm, i64 p.r, i64 (p.K : Int), .slice x1.1 p.P.length x1.2.1, .slice x1.2.2.1 p.LL.length x1.2.2.2, i64 (p.nd : Int), i64 p.n, i64 (p.th : Int), .slice x7.1 p.path.length x7.2, i64 0, i64 0, ptr x10.1, .pointer none, .pointer none, i64 0, i64 0, i64 0, .bool false, i64 0], rowO 3 1 (.slice x1.1 p.P.length x1.2.1) p.P.length (ints p.P), rowO 3 1 (.slice x1.2.2.1 p.LL.length x1.2.2.2) p.LL.length (ints p.LL), rowO 3 1 (.slice x7.1 p.path.length x7.2) p.path.length (ints (nats p.path)), r11O x10.2 p.K p.th x10.1 ⟨[], [], 0, false, 0, 0, 0, 0⟩] w') (hco : COk x10.2 p.K p.q p.K) : Nw (r12O p y (start12 p W L)) w w' := by
 obtain ⟨pa, pc, la, lc⟩ := x1
 obtain ⟨ha, hc⟩ := x7
 obtain ⟨yc, C⟩ := x10
 have hp1 := hp.p1
 have hll := hp.ll
 have hh1 := hp.h1
 obtain ⟨R, hR, _⟩ := (h.pick 1 (by simp)).get
 obtain ⟨pb, e1, _, _⟩ := rowO_cell hR (show 0 < p.P.length by omega)
 obtain ⟨R, hR, _⟩ := (h.pick 2 (by simp)).get
 obtain ⟨lb, e2, _, _⟩ := rowO_cell hR (show 0 < p.LL.length by omega)
 obtain ⟨R, hR, _⟩ := (h.pick 3 (by simp)).get
 obtain ⟨hb, e3, _, _⟩ := rowO_cell hR (show 0 < p.path.length by omega)
 cases e1
 cases e2
 cases e3
 obtain ⟨U, h2, h3, h4⟩ := h.out
 exact ⟨U, ⟨⟨pb, pc, lb, lc, hb, hc, yc, C⟩, .pointer none, .pointer none, h2, hco⟩, h3, h4⟩
set_option maxHeartbeats 4000000 in
theorem r12_New {p : P12} (hp : P12OK p) (ho : ParOK p.P) (hpath : p.path = pathN p.P p.nd) (pb po pc lb lo lc : Nat) (w : World)
 (hP : ∀ i, i < p.P.length → w.cell? ⟨pb, po + i, none⟩ = some (i64 (rd p.P i))) (hL : ∀ i, i < p.LL.length → w.cell? ⟨lb, lo + i, none⟩ = some (i64 (rd p.LL i))) (W : List Int) (L : List Acc) :
 Calls Tryz.prog 11 #[.agg #[i64 p.tt, i64 (p.s : Int), i64 p.g, i64 p.lm, i64 p.r, i64 (p.K : Int), .slice (some ⟨pb, po, none⟩) p.P.length pc, .slice (some ⟨lb, lo, none⟩) p.LL.length lc], i64 (p.nd : Int), i64 p.n, i64 (p.th : Int)] w fun e w' => ∃ y, e = .returned (ptr y) ∧ Nw (r12O p y (start12 p W L)) w w' := by
 have hp1 := hp.p1
 have hlb : p.LL.length ≤ 12 := by have := hp.ll; have := hp.p1; omega
 have hnd := hp.nd1
 have hth := hp.t1
 have hs8 := hp.s8
 have HO := hid ho
 have HP := hid hP
 have HL := hid hL
 have HPA := hid hpath
 have HQ := hid hp
 clear hP hL ho hpath hp
 go_enter Tryz.func11, Tryz.ntmps11
 go_upto_region 1 with fail
 apply wp_region_free (WI := NW12 w w.heap.size [i64 p.tt, i64 (p.s : Int), i64 p.g, i64 p.lm, i64 p.r, i64 (p.K : Int), .slice (some ⟨pb, po, none⟩) p.P.length pc, .slice (some ⟨lb, lo, none⟩) p.LL.length lc] (QA p) (QB p) (QC p) (QD p) (F12 p)) (by kernel_rfl) (by kernel_rfl)
 case hob =>
  apply ObligF.fixed
  case h =>
   intro S gh w1 hwi hSi hd hcl
   apply StepOk.intro
   intro K hK
   have qy := hwi.bx.k8
   go_simp
   apply hK
   · rfl
   · conv => (lhs; whnf)
   · exact hwi.fixed (by decide)
  simp only [put_lit, put_none]
  try dsimp only [List.set_cons_succ, List.set_cons_zero]
  apply ObligF.free
  case h =>
   intro S gh w1 hwi hSi hd hcl
   apply StepG.intro
   intro K hK
   have h11 : S 11 = false := by
    cases h : S 11 with
    | false => rfl
    | true => exact absurd ((hcl 11 _ rfl h) ⟨1, .data⟩ (by simp) rfl) (by rw [hSi]; decide)
   have h12 : S 12 = false := by
    cases h : S 12 with
    | false => rfl
    | true => exact absurd ((hcl 12 _ rfl h) ⟨11, .data⟩ (by simp) rfl) (by rw [h11]; decide)
   have hcP := row_kept hwi.k HP.out
   have hcL := row_kept hwi.k HL.out
   have qy := hwi.bx.k8
   go_simp
   refine Calls.mono (ref_OwnT p.tt p.s p.g p.lm p.r p.K p.P p.LL pb po lb lo pc lc _ (by omega) (by omega) hcP hcL) ?_
   rintro e w2 ⟨x, rfl, hn⟩
   apply hK
   · rfl
   · exact hwi.made1 hSi h11 h12 _ (with_nw hn rfl)
  simp only [put_lit, put_none]
  try dsimp only [List.set_cons_succ, List.set_cons_zero]
  iterate 5
   apply ObligF.fixed
   case h =>
    intro S gh w1 hwi hSi hd hcl
    apply StepOk.intro
    intro K hK
    have qy := hwi.bx.k8
    go_simp
    apply hK
    · rfl
    · conv => (lhs; whnf)
    · exact hwi.fixed (by decide)
   simp only [put_lit, put_none]
   try dsimp only [List.set_cons_succ, List.set_cons_zero]
  apply ObligF.free
  case h =>
   intro S gh w1 hwi hSi hd hcl
   apply StepG.intro
   intro K hK
   have h11 : S 11 = false := by
    cases h : S 11 with
    | false => rfl
    | true => exact absurd ((hcl 11 _ rfl h) ⟨7, .data⟩ (by simp) rfl) (by rw [hSi]; decide)
   have h12 : S 12 = false := by
    cases h : S 12 with
    | false => rfl
    | true => exact absurd ((hcl 12 _ rfl h) ⟨11, .data⟩ (by simp) rfl) (by rw [h11]; decide)
   have hcP := row_kept hwi.k HP.out
   have hcL := row_kept hwi.k HL.out
   have hc7 := ref_Path p.tt p.s p.g p.lm p.r p.K p.P pb po pc (some ⟨lb, lo, none⟩) p.LL.length lc p.nd w1 (by omega) hcP HO.out hnd
   rw [← HPA.out] at hc7
   have HC7 := hid hc7
   clear hc7
   have qy := hwi.bx.k8
   go_simp
   refine Calls.mono (HC7.out) ?_
   rintro e w2 ⟨x, rfl, hn⟩
   apply hK
   · rfl
   · exact hwi.made7 hSi h11 h12 _ (with_nw hn rfl)
  simp only [put_lit, put_none]
  try dsimp only [List.set_cons_succ, List.set_cons_zero]
  iterate 2
   apply ObligF.fixed
   case h =>
    intro S gh w1 hwi hSi hd hcl
    apply StepOk.intro
    intro K hK
    have qy := hwi.bx.k8
    go_simp
    apply hK
    · rfl
    · conv => (lhs; whnf)
    · exact hwi.fixed (by decide)
   simp only [put_lit, put_none]
   try dsimp only [List.set_cons_succ, List.set_cons_zero]
  apply ObligF.free
  case h =>
   intro S gh w1 hwi hSi hd hcl
   apply StepG.intro
   intro K hK
   have h11 : S 11 = false := by
    cases h : S 11 with
    | false => rfl
    | true => exact absurd ((hcl 11 _ rfl h) ⟨10, .data⟩ (by simp) rfl) (by rw [hSi]; decide)
   have h12 : S 12 = false := by
    cases h : S 12 with
    | false => rfl
    | true => exact absurd ((hcl 12 _ rfl h) ⟨11, .data⟩ (by simp) rfl) (by rw [h11]; decide)
   have hcP := row_kept hwi.k HP.out
   have hcL := row_kept hwi.k HL.out
   have qy := hwi.bx.k8
   go_simp
   refine Calls.mono (r11O_New p.tt p.s p.g p.lm p.r p.K p.th p.P p.LL pb po lb lo pc lc _ p.q (by omega) (by omega) hcP hcL (by unfold P12.q; push_cast; rfl) (by omega)) ?_
   rintro e w2 ⟨x, rfl, hn⟩
   apply hK
   · rfl
   · exact hwi.made10 hSi h11 h12 _ (with_nw hn rfl)
  simp only [put_lit, put_none]
  try dsimp only [List.set_cons_succ, List.set_cons_zero]
  apply ObligF.free
  case h =>
   intro S gh w1 hwi hSi hd hcl
   apply StepG.intro
   intro K hK
   obtain ⟨⟨xa, xac, xl, xlc⟩, hx1⟩ := hwi.isA (P := fun v => ∃ x : Option Addr × Nat × Option Addr × Nat, v = .agg #[i64 p.tt, i64 (p.s : Int), i64 p.g, i64 p.lm, i64 p.r, i64 (p.K : Int), .slice x.1 p.P.length x.2.1, .slice x.2.2.1 p.LL.length x.2.2.2]) (fun v R ⟨x, _, e⟩ => ⟨x, e⟩) (hd ⟨1, .data⟩ (by simp) rfl)
   obtain ⟨⟨xh, xhc⟩, hx7⟩ := hwi.isB (P := fun v => ∃ x : Option Addr × Nat, v = .slice x.1 p.path.length x.2) (fun v R ⟨x, _, e⟩ => ⟨x, e⟩) (hd ⟨7, .data⟩ (by simp) rfl)
   obtain ⟨⟨xc, xC⟩, hx10⟩ := hwi.isC (P := fun v => ∃ x : Nat × CC, v = ptr x.1) (fun v R ⟨x, _, e⟩ => ⟨x, e⟩) (hd ⟨10, .data⟩ (by simp) rfl)
   rw [hx1, hx7, hx10]
   go_simp
   apply hK
   · rfl
   · exact hwi.done11 (by rw [hx1, hx7, hx10]; rfl)
  simp only [put_lit, put_none]
  try dsimp only [List.set_cons_succ, List.set_cons_zero]
  apply ObligF.free
  case h =>
   intro S gh w1 hwi hSi hd hcl
   apply StepG.intro
   intro K hK
   have h11 := hd ⟨11, .data⟩ (by simp) rfl
   have h1a := (hcl 11 _ rfl h11) ⟨1, .data⟩ (by simp) rfl
   have h7a := (hcl 11 _ rfl h11) ⟨7, .data⟩ (by simp) rfl
   have h10a := (hcl 11 _ rfl h11) ⟨10, .data⟩ (by simp) rfl
   have h13 : S 13 = false := by
    cases h : S 13 with
    | false => rfl
    | true => exact absurd ((hcl 13 _ rfl h) ⟨12, .data⟩ (by simp) rfl) (by rw [hSi]; decide)
   obtain ⟨⟨xa, xac, xl, xlc⟩, hx1⟩ := hwi.isA (P := fun v => ∃ x : Option Addr × Nat × Option Addr × Nat, v = .agg #[i64 p.tt, i64 (p.s : Int), i64 p.g, i64 p.lm, i64 p.r, i64 (p.K : Int), .slice x.1 p.P.length x.2.1, .slice x.2.2.1 p.LL.length x.2.2.2]) (fun v R ⟨x, _, e⟩ => ⟨x, e⟩) h1a
   obtain ⟨⟨xh, xhc⟩, hx7⟩ := hwi.isB (P := fun v => ∃ x : Option Addr × Nat, v = .slice x.1 p.path.length x.2) (fun v R ⟨x, _, e⟩ => ⟨x, e⟩) h7a
   obtain ⟨⟨xc, xC⟩, hx10⟩ := hwi.isC (P := fun v => ∃ x : Nat × CC, v = ptr x.1) (fun v R ⟨x, _, e⟩ => ⟨x, e⟩) h10a
   have e11 : gh 11 = .agg #[i64 p.tt, i64 (p.s : Int), i64 p.g, i64 p.lm, i64 p.r, i64 (p.K : Int), .slice xa p.P.length xac, .slice xl p.LL.length xlc, i64 (p.nd : Int), i64 p.n, i64 (p.th : Int), .slice xh p.path.length xhc, i64 0, i64 0, ptr xc, .pointer none, .pointer none, i64 0, i64 0, i64 0, .bool false, i64 0] := by rw [hwi.v11 h11, hx1, hx7, hx10]; rfl
   rw [e11]
   go_simp
   apply hK
   · rfl
   · exact hwi.made12 hSi h13 _ (with_nw (f := fun y => Ass.blk y 83 (M12 p (gh 1) (gh 7) (gh 10))) (Nw.blk (Blk.made rfl (by rw [hx1, hx7, hx10]; rfl)) ((Keep.refl _ _).alloc _) (Nat.le_refl _)) rfl)
  simp only [put_lit, put_none]
  try dsimp only [List.set_cons_succ, List.set_cons_zero]
  apply ObligF.free
  case h =>
   intro S gh w1 hwi hSi hd hcl
   apply StepG.intro
   intro K hK
   go_simp
   apply hK
   · rfl
   · exact hwi.done13 rfl
  simp only [put_lit, put_none]
  try dsimp only [List.set_cons_succ, List.set_cons_zero]
  exact ObligF.nil
 case h0 =>
  exact NW12.start (((Keep.refl _ _).alloc _).drew) ((Blk.made rfl rfl).drew)
 case hend =>
  intro S gh wx hwi hall
  have hst : St w [QA p (gh 1), QB p (gh 7), QC p (gh 10), QD p (gh 1) (gh 7) (gh 10) (gh 12)] wx := by have h := hwi.st; rw [hall 1 (by decide), hall 7 (by decide), hall 10 (by decide), hall 12 (by decide)] at h; exact h
  have e13 := hwi.v13 (hall 13 (by decide))
  clear hwi hall
  simp only [Nat.reduceAdd]
  rw [e13]
  obtain ⟨x1, hst⟩ := hst.exO
  obtain ⟨e1, hst⟩ := hst.withO
  have hst := (St.ungroup [_, _] hst).pick 2 (by simp)
  obtain ⟨x7, hst⟩ := hst.exO
  obtain ⟨e7, hst⟩ := hst.withO
  have hst := hst.pick 3 (by simp)
  obtain ⟨x10, hst⟩ := hst.exO
  obtain ⟨e10, hst⟩ := hst.withO
  obtain ⟨hco, hst⟩ := hst.withO
  have hst := hst.pick 4 (by simp)
  obtain ⟨y, hst⟩ := hst.exO
  obtain ⟨e12, hst⟩ := hst.withO
  rw [e1, e7, e10] at hst
  rw [e12]
  clear e1 e7 e10 e12 e13
  have hst := ((((hst.pick 1 (by simp)).pick 2 (by simp)).pick 4 (by simp)).pick 4 (by simp)).pick 4 (by simp)
  have HST := hid hst
  clear hst
  go_wp2_with fail
  go_ret
  exact ⟨y, rfl, new_fold HQ.out HST.out hco⟩
end Go.Proofs.YthaceckccobgeaaGreat

namespace Go.Proofs.YthaceckccobgeaaGreat
open Go.RowKit
set_option linter.unusedVariables false
set_option linter.unusedSimpArgs false
set_option maxRecDepth 100000
set_option maxHeartbeats 1000000 in
theorem ref12_SL {τ : Type} (Mt : τ → Ass) (Inv : Nat → τ → Prop) (stp : τ → τ × Bool) (pk : τ → Nat → Int → τ) (len : Nat) (x m : Nat) (l : List Pk) (A0 : Option Addr) (kb ko c most : Nat) (w : World) (R : Nat → Prop) (t : τ)
 (hmost : most ≤ 1000000) (hl : l.length ≤ 1000000) (hlen : len ≤ 1000000) (ht : (Mt t).At R w) (hi : Inv 0 t) (hA0 : 0 < l.length → A0 = some ⟨kb, ko, none⟩ ∧ kb < w.heap.size ∧ ¬ R kb)
 (hcells : ∀ i (h : i < l.length), w.cell? ⟨kb, ko + i * 3, none⟩ = some (i64 l[i].at_) ∧ w.cell? ⟨kb, ko + i * 3 + 1, none⟩ = some (i64 l[i].w) ∧ w.cell? ⟨kb, ko + i * 3 + 2, none⟩ = some (i64 l[i].x))
 (hmem : ∀ n R w t, (Mt t).At R w → Inv n t → ∃ A c lv, Blk w m 42 [.slice A len c, lv])
 (hipk : ∀ n t i x, (∃ p ∈ l, p.w.toNat = i ∧ p.x = x) → i < len → Inv n t → Inv n (pk t i x)) (hist : ∀ n t, n < most → Inv n t → Inv (n + 1) (stp t).1)
 (hpoke : ∀ n R w t (i x : Int), (∃ p ∈ l, p.w = i ∧ p.x = x) → (Mt t).At R w → Inv n t → 0 ≤ i → i < len → Calls Tryz.prog 76 #[ptr m, i64 i, i64 x] w fun e w' => e = .returned (.tuple #[]) ∧ Tr (Mt (pk t i.toNat x)) R w w')
 (hstep : ∀ n R w t, n < most → (Mt t).At R w → Inv n t → Calls Tryz.prog 12 #[ptr x, ptr m] w fun e w' => e = .returned (.bool (stp t).2) ∧ Tr (Mt (stp t).1) R w w') :
 Calls Tryz.prog 39 #[ptr m, ptr x, .slice A0 l.length c, i64 most] w fun e w' =>
  e = .returned (.tuple #[i64 (playF stp pk len l most 0 t).2.1, .bool (playF stp pk len l most 0 t).2.2]) ∧ Tr (Mt (playF stp pk len l most 0 t).1) R w w' ∧ ∃ n, Inv n (playF stp pk len l most 0 t).1 := by
 have hs0 : (fun (n : Nat) (w1 : World) (t1 : τ) => ∃ R1, (Mt t1).At R1 w1 ∧ Inv n t1 ∧ (∀ k, R1 k → R k ∨ w.heap.size ≤ k) ∧ w.heap.size ≤ w1.heap.size) 0 w t := ⟨R, ht, hi, fun _ h => Or.inl h, Nat.le_refl _⟩
 refine (ref12_Play (fun n w1 t1 => ∃ R1, (Mt t1).At R1 w1 ∧ Inv n t1 ∧ (∀ k, R1 k → R k ∨ w.heap.size ≤ k) ∧ w.heap.size ≤ w1.heap.size) stp pk len x m R w.heap.size l A0 kb ko c most w t hmost hl hlen (Nat.le_refl _) hA0 hcells ?_ ?_ ?_ ?_ hs0).mono ?_
 · rintro n w1 t1 ⟨R1, h1, h2, _⟩
   exact hmem n R1 w1 t1 h1 h2
 · rintro n w1 w2 t1 ⟨R1, h1, h2, h3, h4⟩ hk
   exact ⟨R1, (Mt t1).st h1 hk (fun _ _ h => h), h2, h3, Nat.le_trans h4 hk.size⟩
 · rintro n w1 t1 i y hp ⟨R1, h1, h2, h3, h4⟩ hi0 hi1
   refine (hpoke n R1 w1 t1 i y hp h1 h2 hi0 hi1).mono ?_
   rintro e w2 ⟨rfl, R2, g1, g2, g3⟩
   exact ⟨rfl, ⟨R2, g1, hipk n t1 i.toNat y (by obtain ⟨p, hp1, rfl, rfl⟩ := hp; exact ⟨p, hp1, rfl, rfl⟩) (by omega) h2, fun k hk => (g3 k hk).elim (h3 k) (fun h => Or.inr (Nat.le_trans h4 h)), Nat.le_trans h4 g2.size⟩, g2.mono h3⟩
 · rintro n w1 t1 hn ⟨R1, h1, h2, h3, h4⟩
   refine (hstep n R1 w1 t1 hn h1 h2).mono ?_
   rintro e w2 ⟨rfl, R2, g1, g2, g3⟩
   exact ⟨rfl, ⟨R2, g1, hist n t1 hn h2, fun k hk => (g3 k hk).elim (h3 k) (fun h => Or.inr (Nat.le_trans h4 h)), Nat.le_trans h4 g2.size⟩, g2.mono h3⟩
 · rintro e w2 ⟨rfl, ⟨n, R2, g1, g2, g3, g4⟩, hk⟩
   exact ⟨rfl, ⟨R2, g1, hk.trans (Keep.refl (fun _ => False) _) (fun _ _ h => h.elim) |> fun h => ⟨h.os, h.tape, h.output, h.size, fun k hk hn => h.block k hk (fun h => h.elim hn (fun h => by omega))⟩, g3⟩, n, g2⟩
section
variable {p : P12} {X : Int} {t : S12}
theorem claimed12_L (t : S12) : (claimed12 t).L = t.L := by unfold claimed12; split <;> (try split) <;> rfl
theorem pooled12_L (t : S12) : (pooled12 p t).L = t.L := by unfold pooled12; split <;> (try split) <;> (try split) <;> rfl
theorem added12_L (t : S12) : (added12 p t).L = t.L := by unfold added12; split <;> (try split) <;> rfl
theorem n12_log (h : I12 p X t) (h6 : t.ph ≠ 6) : (n12 p t).L.length = t.L.length + 1 := by
 have hph := h.ph
 have hc : t.ph = 0 ∨ t.ph = 1 ∨ t.ph = 2 ∨ t.ph = 3 ∨ t.ph = 4 ∨ t.ph = 5 := by omega
 rcases hc with e | e | e | e | e | e
 · rw [n12_0 e, claimed12_L]
   exact cNext_log t.c (h.ci e).2.1
 · rw [n12_1 e, pooled12_L]
   exact pNext_log t.pl (h.pi e).2.2
 · by_cases h2 : 0 < t.at_
   · rw [n12_2 e h2]; simp
   · rw [n12_2z e h2]; simp
 · rw [n12_3 e]; simp
 · rw [n12_4 e]; simp
 · rw [n12_5 e, added12_L]
   have hst := (h.ai e).2.1.nx
   exact aNext_log t.a (by have := (h.ai e).2.2.1; show t.ad.st < 9; have : t.ad.st ≤ 9 := hst; omega)
theorem n12_logle (h : I12 p X t) : (n12 p t).L.length ≤ t.L.length + 1 := by
 by_cases h6 : t.ph = 6
 · rw [I12.over h6]; omega
 · rw [n12_log h h6]; omega
def IV12 (p : P12) (X0 : Int) (L0 n : Nat) (t : S12) : Prop := I12 p (X0 + (n : Int) * 1048576) t ∧ t.L.length ≤ L0 + n
theorem r12_Play {B m y : Nat} {R : Nat → Prop} {w : World} (hp : P12OK p) (l : List Pk) (A0 : Option Addr) (kb ko c most : Nat) (hmost : most ≤ 1000) (hl : l.length ≤ 1000000) (ht : ((refO B m t.W t.L).star (r12O p y t)).At R w)
 (hi : I12 p X t) (hX : X ≤ 2199023255552) (hL : t.L.length ≤ 1000000) (hA0 : 0 < l.length → A0 = some ⟨kb, ko, none⟩ ∧ kb < w.heap.size ∧ ¬ R kb)
 (hcells : ∀ i (h : i < l.length), w.cell? ⟨kb, ko + i * 3, none⟩ = some (i64 l[i].at_) ∧ w.cell? ⟨kb, ko + i * 3 + 1, none⟩ = some (i64 l[i].w) ∧ w.cell? ⟨kb, ko + i * 3 + 2, none⟩ = some (i64 l[i].x))
 (hpk : ∀ q ∈ l, ∀ (n : Nat) (t' : S12), q.w.toNat < p.q + 2 * p.K → I12 p (X + (n : Int) * 1048576) t' → I12 p (X + (n : Int) * 1048576) (pk12 t' q.w.toNat q.x)) :
 Calls Tryz.prog 39 #[ptr m, ptr y, .slice A0 l.length c, i64 most] w fun e w' =>
  e = .returned (.tuple #[i64 (playF (stp12 p) pk12 (p.q + 2 * p.K) l most 0 t).2.1, .bool (playF (stp12 p) pk12 (p.q + 2 * p.K) l most 0 t).2.2]) ∧
  Tr ((refO B m (playF (stp12 p) pk12 (p.q + 2 * p.K) l most 0 t).1.W (playF (stp12 p) pk12 (p.q + 2 * p.K) l most 0 t).1.L).star (r12O p y (playF (stp12 p) pk12 (p.q + 2 * p.K) l most 0 t).1)) R w w' ∧ ∃ n, IV12 p X t.L.length n (playF (stp12 p) pk12 (p.q + 2 * p.K) l most 0 t).1 := by
 have hq := hp.q264
 have hk := hp.k1
 refine ref12_SL (fun t : S12 => (refO B m t.W t.L).star (r12O p y t)) (fun n t' => n ≤ most ∧ IV12 p X t.L.length n t') (stp12 p) pk12 (p.q + 2 * p.K) y m l A0 kb ko c most w R t (by omega) hl (by omega) ht ⟨Nat.zero_le _, by simpa [IV12] using hi⟩ hA0 hcells ?_ ?_ ?_ ?_ ?_ |>.mono ?_
 · rintro n R1 w1 t1 ⟨_, _, ⟨A, c1, lv, hm, _⟩, _⟩ ⟨_, h1, _⟩
   exact ⟨A, c1, lv, by have := hm.mem; rw [h1.w.ln] at this; exact this⟩
 · rintro n t1 i x ⟨q, hq1, rfl, rfl⟩ hlt ⟨h0, h1, h2⟩
   exact ⟨h0, hpk q hq1 n t1 hlt h1, h2⟩
 · rintro n t1 hn ⟨h0, h1, h2⟩
   refine ⟨hn, ?_, ?_⟩
   · have h := h1.step hp (by omega)
     rw [show X + ((n + 1 : Nat) : Int) * 1048576 = X + (n : Int) * 1048576 + 1048576 from by push_cast; omega]
     exact h
   · have := n12_logle h1
     show (n12 p t1).L.length ≤ _
     omega
 · rintro n R1 w1 t1 i x ⟨q, hq1, rfl, rfl⟩ ⟨Rm, Rx, hm, hx, hd, e⟩ ⟨_, h1, h2⟩ hi0 hi1
   refine (refO_Poke q.w q.x hm hi0 (by rw [h1.w.ln]; exact_mod_cast hi1) (by rw [h1.w.ln]; omega)).mono ?_
   rintro e' w2 ⟨rfl, h⟩
   exact ⟨rfl, Tr.frame1 (r := r12O p y (pk12 t1 q.w.toNat q.x)) hx hd e h⟩
 · rintro n R1 w1 t1 hn h ⟨h0, h1, h2⟩
   exact r12_Step hp h1 (by omega) (by omega) h
 · rintro e w' ⟨rfl, ht, n, _, hn⟩
   exact ⟨rfl, ht, n, hn⟩
end
end Go.Proofs.YthaceckccobgeaaGreat

namespace Go.Proofs.YthaceckccobgeaaGreat
open Go.RowKit
set_option linter.unusedVariables false
set_option linter.unusedSimpArgs false
def layW (s : Int) (v : Int) (x : Int) (W : List Int) : List Int :=
 ((W.set (v * (6 + 2 * s)).toNat x).set (v * (6 + 2 * s) + 1).toNat x).set (v * (6 + 2 * s) + 2 + s + 3).toNat 1
end Go.Proofs.YthaceckccobgeaaGreat

namespace Go.Proofs.YthaceckccobgeaaGreat
open Go.RowKit
set_option linter.unusedVariables false
set_option linter.unusedSimpArgs false
def layN (s : Int) (L : List Int) : Nat → List Int → List Int
 | 0, W => W
 | n + 1, W => layW s n (rd L n) (layN s L n W)
def freshW (s k : Int) (pn : Nat) (L : List Int) : List Int := layN s L pn (List.replicate (pn * (6 + 2 * s) + 2 * k).toNat 0)
theorem layW_length (s v x : Int) (W : List Int) : (layW s v x W).length = W.length := by simp [layW]
theorem layN_length (s : Int) (L : List Int) (n : Nat) (W : List Int) : (layN s L n W).length = W.length := by
 induction n with
 | zero => rfl
 | succ n ih => rw [layN, layW_length, ih]
end Go.Proofs.YthaceckccobgeaaGreat

namespace Go.Proofs.YthaceckccobgeaaGreat
open Go.RowKit
set_option linter.unusedVariables false
set_option linter.unusedSimpArgs false
def greatB (pn ln : Nat) : Bool := decide (100 < (pn : Int)) || decide (100 < (ln : Int))
set_option maxHeartbeats 400000 in
theorem law_Great (t s g l r k : Int) (PA : Option Addr) (pn pc : Nat) (LA : Option Addr) (ln lc : Nat) (w : World) (h1 : pn ≤ 9223372036854775807) (h2 : ln ≤ 9223372036854775807) :
 Calls Tryz.prog 17 #[.agg #[i64 t, i64 s, i64 g, i64 l, i64 r, i64 k, .slice PA pn pc, .slice LA ln lc]] w (Ret (.bool (greatB pn ln)) w) := by
 go_enter Tryz.func17, Tryz.ntmps17
 go_wp2
 all_goals
  go_ret
  refine ⟨?_, (Keep.refl _ _).alloc _⟩
  simp_all [greatB]
def goodB (t s g l r k : Int) (P L : List Int) : Bool := !greatB P.length L.length && rightB t s g l r k P L
structure Right (t s g l r k : Int) (P L : List Int) : Prop where
 t : 1 ≤ t ∧ t ≤ 8
 s : s = 1 ∨ s = 2 ∨ s = 4 ∨ s = 8
 g : 1 ≤ g ∧ g ≤ 1048576
 l : 0 ≤ l ∧ l ≤ 1048576
 r : 1 ≤ r ∧ r ≤ 8
 k : 1 ≤ k ∧ k ≤ 16
 p : 1 ≤ P.length ∧ P.length ≤ 12
 len : L.length = P.length
 lim : ∀ i, i < P.length → 0 ≤ rd L i ∧ rd L i ≤ 1099511627776
 root : rd P 0 = -1
 par : ∀ i, 0 < i → i < P.length → 0 ≤ rd P i ∧ rd P i ≤ i - 1
theorem restB_all {P L : List Int} : ∀ d i, restB P L d i = true → ∀ j, i ≤ j → j < i + d → inB (rd L j) 0 1099511627776 = true ∧ (if j = 0 then rd P j = -1 else inB (rd P j) 0 (j - 1) = true) := by
 intro d
 induction d with
 | zero => intro i _ j h1 h2; omega
 | succ d ih =>
  intro i h j h1 h2
  simp only [restB, Bool.and_eq_true] at h
  by_cases e : j = i
  · subst e
    refine ⟨h.1.1, ?_⟩
    have := h.1.2
    split at this
    · rename_i h0; rw [if_pos h0]; simpa using this
    · rename_i h0; rw [if_neg h0]; exact this
  · exact ih _ h.2 j (by omega) (by omega)
theorem Right.of {t s g l r k : Int} {P L : List Int} (h : goodB t s g l r k P L = true) : Right t s g l r k P L := by
 simp only [goodB, rightB, headB, Bool.and_eq_true] at h
 obtain ⟨_, ⟨⟨⟨⟨⟨⟨⟨i1, i2⟩, i3⟩, i4⟩, i5⟩, i6⟩, i7⟩, i8⟩, i9⟩ := h
 have hr := restB_all _ _ i9
 have hp := inB_iff.1 i7
 have hl : L.length = P.length := by simp at i8; omega
 refine ⟨inB_iff.1 i1, stripes_cases i2, inB_iff.1 i3, inB_iff.1 i4, inB_iff.1 i5, inB_iff.1 i6, by omega, hl, fun i hi => inB_iff.1 (hr i (Nat.zero_le _) (by omega)).1, ?_, fun i h0 hi => ?_⟩
 · have := (hr 0 (Nat.le_refl _) (by omega)).2
   simpa using this
 · have := (hr i (Nat.zero_le _) (by omega)).2
   rw [if_neg (by omega)] at this
   exact inB_iff.1 this
theorem Right.sb {t s g l r k : Int} {P L : List Int} (h : Right t s g l r k P L) : 1 ≤ s ∧ s ≤ 8 := by have := h.s; omega
end Go.Proofs.YthaceckccobgeaaGreat

namespace Go.Proofs.YthaceckccobgeaaGreat
open Go.RowKit
set_option linter.unusedVariables false
set_option linter.unusedSimpArgs false
def RefOK (B : Nat) (w : World) (m : Nat) (lv : Value) (W : List Int) (L : List Acc) : Prop := ∃ A c, RefAt B w m A c lv W L
theorem RefOK.same {B : Nat} {w w' : World} {m : Nat} {lv : Value} {W : List Int} {L : List Acc} (h : RefOK B w m lv W L) (hk : Keep (fun _ => False) w w') : RefOK B w' m lv W L := by
 obtain ⟨A, c, h⟩ := h
 exact ⟨A, c, h.keep hk (fun _ _ h => h)⟩
theorem ref_Poke' (B : Nat) (w : World) (m : Nat) (lv : Value) (W : List Int) (L : List Acc) (i x : Int) (hm : RefOK B w m lv W L) (h0 : 0 ≤ i) (hi : i < W.length) (hW : W.length ≤ 1000000) :
 Calls Tryz.prog 76 #[ptr m, i64 i, i64 x] w fun e w' => e = .returned (.tuple #[]) ∧ RefOK B w' m lv (W.set i.toNat x) L ∧ Keep (fun k => k = m) w w' := by
 obtain ⟨A, c, hm⟩ := hm
 exact (ref_Poke B w m A c lv W L i x hm h0 hi hW).mono fun e w' ⟨h1, A', c', h2, h3, _⟩ => ⟨h1, ⟨A', c', h2⟩, h3⟩
set_option maxHeartbeats 4000000 in
set_option maxRecDepth 100000 in
theorem ref_Fresh (B : Nat) (w : World) (lb lo : Nat) (t s g l r k : Int) (PA : Option Addr) (pn pc ln lc : Nat) (L : List Int)
 (hB : B ≤ w.heap.size) (hs0 : 1 ≤ s) (hs1 : s ≤ 8) (hk0 : 0 ≤ k) (hk1 : k ≤ 100) (hp : pn ≤ 100) (hpl : pn ≤ ln) (hL : ∀ i, i < pn → w.cell? ⟨lb, lo + i, none⟩ = some (i64 (rd L i))) (hlb : lb < w.heap.size) :
 Calls Tryz.prog 38 #[.agg #[i64 t, i64 s, i64 g, i64 l, i64 r, i64 k, .slice PA pn pc, .slice (some ⟨lb, lo, none⟩) ln lc]] w fun e w' => ∃ m, e = .returned (ptr m) ∧ RefOK B w' m (.slice none 0 0) (freshW s k pn L) [] ∧ Keep0 w w' ∧ w.heap.size ≤ m := by
 have hmm := mul_bd 100 22 (show (0 : Int) ≤ pn by omega) (by omega) (show 0 ≤ 6 + 2 * s by omega) (by omega)
 have hlz := hlb
 have hlzs := lts hlb
 go_enter Tryz.func38, Tryz.ntmps38
 go_wp2_with fail
 refine (ref_Size t s g l r k PA pn pc (some ⟨lb, lo, none⟩) ln lc _ hs0 hs1 hk0 (by omega) (by omega)).mono ?_
 rintro e w1 ⟨rfl, hk1'⟩
 have HK1 : Hid (Keep0 w w1) := hid (Keep0.step (by repeat (with_reducible first | exact Keep.refl _ _ | apply Keep.alloc | apply Keep.drewN | apply Keep.drew)) hk1')
 have HCB := hid (hk1'.blk (Blk.made (b := w.heap.size) (w := w) (t := 24) (cs := [i64 t, i64 s, i64 g, i64 l, i64 r, i64 k, .slice PA pn pc, .slice (some ⟨lb, lo, none⟩) ln lc]) rfl rfl) (fun h => h))
 clear hk1'
 go_wp2_with fail
 refine (ref_New B _ _ (Nat.le_trans hB HK1.out.size) (by omega) (by omega)).mono ?_
 rintro e w2 ⟨m, A, c, rfl, hm, hk2, hzm⟩
 have HCB2 := hid (hk2.blk HCB.out (fun h => h))
 have HK2 : Hid (Keep0 w w2) := hid (Keep0.step HK1.out hk2)
 have hm0 : w1.heap.size ≤ m := hzm m (Or.inl rfl)
 have hm1 := Nat.le_trans HK1.out.size hm0
 have hcm : w.heap.size ≠ m := by have := HCB.out.lt; omega
 have hlm : lb ≠ m := by omega
 have HLZ := hid (Nat.lt_of_lt_of_le hlb HK2.out.size)
 have HM := hid (show RefOK B w2 m _ _ _ from ⟨A, c, hm⟩)
 have HL := hid (fun i hi => (cell_old HK2.out hlb (fun h => h) _).trans (hL i hi))
 clear HCB hm hk2 hzm hL
 have cbs := HCB2.out.k8
 go_wp2_with fail
 go_loopw [4] (fun v wr => ∃ i : Nat, i ≤ pn ∧ v = .int .i64 i ∧ RefOK B wr m (.slice none 0 0) (layN s L i (List.replicate (pn * (6 + 2 * s) + 2 * k).toNat 0)) [] ∧ Keep (fun k => k = m) w2 wr) (fun v _ => pn - (intOf v).toNat)
 case atStart => exact ⟨0, Nat.zero_le _, rfl, HM.out, Keep.refl _ _⟩
 case round =>
  obtain ⟨i, hi, rfl, hmi, hki⟩ := hrel
  have HMC := hid hmi
  have HKC := hid hki
  clear hmi hki
  have cb1 := (HKC.out.blk HCB2.out hcm).k8
  by_cases hlt : i < pn
  · have hiln : i < ln := by omega
    have hlen : (layN s L i (List.replicate (pn * (6 + 2 * s) + 2 * k).toNat 0)).length = (pn * (6 + 2 * s) + 2 * k).toNat := by rw [layN_length, List.length_replicate]
    have h1 : ((i : Int) + 1) * (6 + 2 * s) ≤ (pn : Int) * (6 + 2 * s) := Int.mul_le_mul_of_nonneg_right (by omega) (by omega)
    have h2 : ((i : Int) + 1) * (6 + 2 * s) = i * (6 + 2 * s) + (6 + 2 * s) := by rw [Int.add_mul, Int.one_mul]
    have h3 := mul_bd 100 22 (show (0 : Int) ≤ i by omega) (by omega) (show 0 ≤ 6 + 2 * s by omega) (by omega)
    have hX : layN s L (i + 1) (List.replicate (pn * (6 + 2 * s) + 2 * k).toNat 0) = layW s i (rd L i) (layN s L i (List.replicate (pn * (6 + 2 * s) + 2 * k).toNat 0)) := rfl
    have HX := hid (HL.out i hlt)
    have HXX := hid hX
    clear hX
    generalize layN s L i (List.replicate (pn * (6 + 2 * s) + 2 * k).toNat 0) = W at *
    go_upto_region 5 with fail
    go_cut [] (fun wx => RefOK B wx m (.slice none 0 0) (W.set ((i : Int) * (6 + 2 * s)).toNat (rd L i)) [] ∧ Keep (fun k => k = m) w2 wx)
    case first =>
     apply wp_region_text (WI := fun S wx => Keep (fun k => k = m) w2 wx ∧ (S 9 = false → RefOK B wx m (.slice none 0 0) (W) []) ∧ (S 9 = true → RefOK B wx m (.slice none 0 0) (W.set ((i : Int) * (6 + 2 * s)).toNat (rd L i)) [])) (by kernel_rfl) (by kernel_rfl)
     case hob =>
      iterate 3
       apply Oblig.cons
       case h =>
        intro S w1 hwi hSi hd hcl
        apply StepOk.intro
        intro K hK
        have cb1 := (hwi.1.blk HCB2.out hcm).k8
        have hx1 := (cell_old hwi.1 HLZ.out hlm _).trans HX.out
        go_simp
        apply hK
        · rfl
        · conv => (lhs; whnf)
        · exact hwi
       simp only [put_lit, put_none]
       try dsimp only [List.set_cons_succ, List.set_cons_zero]
      apply Oblig.cons
      case h =>
       intro S w1 hwi hSi hd hcl
       apply StepOk.intro
       intro K hK
       have cb1 := (hwi.1.blk HCB2.out hcm).k8
       have hx1 := (cell_old hwi.1 HLZ.out hlm _).trans HX.out
       go_simp
       refine (ref_Limit t s g l r k PA pn pc (some ⟨lb, lo, none⟩) ln lc i _ hs0 hs1 (by omega) (by omega)).mono ?_
       rintro e w2 ⟨rfl, hk⟩
       apply hK
       · rfl
       · conv => (lhs; whnf)
       · exact ⟨hwi.1.trans (hk.to (S := fun k => k = m)) (fun _ _ h => h), fun h => (hwi.2.1 h).same hk, fun h => (hwi.2.2 h).same hk⟩
      simp only [put_lit, put_none]
      try dsimp only [List.set_cons_succ, List.set_cons_zero]
      iterate 5
       apply Oblig.cons
       case h =>
        intro S w1 hwi hSi hd hcl
        apply StepOk.intro
        intro K hK
        have cb1 := (hwi.1.blk HCB2.out hcm).k8
        have hx1 := (cell_old hwi.1 HLZ.out hlm _).trans HX.out
        go_simp
        apply hK
        · rfl
        · conv => (lhs; whnf)
        · exact hwi
       simp only [put_lit, put_none]
       try dsimp only [List.set_cons_succ, List.set_cons_zero]
      apply Oblig.cons
      case h =>
       intro S w1 hwi hSi hd hcl
       apply StepOk.intro
       intro K hK
       have cb1 := (hwi.1.blk HCB2.out hcm).k8
       have hx1 := (cell_old hwi.1 HLZ.out hlm _).trans HX.out
       go_simp
       refine (ref_Poke' B _ m _ _ _ _ (rd L i) (hwi.2.1 hSi) (by omega) (by first | omega | (simp; omega)) (by first | omega | (simp; omega))).mono ?_
       rintro e w2 ⟨rfl, hm2, hk2⟩
       apply hK
       · rfl
       · conv => (lhs; whnf)
       · exact ⟨hwi.1.trans hk2 (fun _ _ h => h), fun h => by simp [upd] at h, fun _ => hm2⟩
      simp only [put_lit, put_none]
      try dsimp only [List.set_cons_succ, List.set_cons_zero]
      exact Oblig.nil
     case h0 =>
      exact ⟨HKC.out.drew, fun _ => HMC.out.same (Keep.refl _ _).drew, fun h => by cases h⟩
     case hend =>
      intro S wx hwi hall
      go_wp2_with fail
      go_meet
      exact ⟨hwi.2.2 (hall 9 (by decide)), hwi.1⟩
    case rest =>
     obtain ⟨hm1, hk1⟩ := hcut
     clear cb1 HMC HKC
     have HMC := hid hm1
     have HKC := hid hk1
     clear hm1 hk1
     have cb1 := (HKC.out.blk HCB2.out hcm).k8
     go_upto_region 6 with fail
     go_cut [] (fun wx => RefOK B wx m (.slice none 0 0) ((W.set ((i : Int) * (6 + 2 * s)).toNat (rd L i)).set ((i : Int) * (6 + 2 * s) + 1).toNat (rd L i)) [] ∧ Keep (fun k => k = m) w2 wx)
     case first =>
      apply wp_region_text (WI := fun S wx => Keep (fun k => k = m) w2 wx ∧ (S 9 = false → RefOK B wx m (.slice none 0 0) (W.set ((i : Int) * (6 + 2 * s)).toNat (rd L i)) []) ∧ (S 9 = true → RefOK B wx m (.slice none 0 0) ((W.set ((i : Int) * (6 + 2 * s)).toNat (rd L i)).set ((i : Int) * (6 + 2 * s) + 1).toNat (rd L i)) [])) (by kernel_rfl) (by kernel_rfl)
      case hob =>
       iterate 3
        apply Oblig.cons
        case h =>
         intro S w1 hwi hSi hd hcl
         apply StepOk.intro
         intro K hK
         have cb1 := (hwi.1.blk HCB2.out hcm).k8
         have hx1 := (cell_old hwi.1 HLZ.out hlm _).trans HX.out
         go_simp
         apply hK
         · rfl
         · conv => (lhs; whnf)
         · exact hwi
        simp only [put_lit, put_none]
        try dsimp only [List.set_cons_succ, List.set_cons_zero]
       apply Oblig.cons
       case h =>
        intro S w1 hwi hSi hd hcl
        apply StepOk.intro
        intro K hK
        have cb1 := (hwi.1.blk HCB2.out hcm).k8
        have hx1 := (cell_old hwi.1 HLZ.out hlm _).trans HX.out
        go_simp
        refine (ref_Avail t s g l r k PA pn pc (some ⟨lb, lo, none⟩) ln lc i _ hs0 hs1 (by omega) (by omega)).mono ?_
        rintro e w2 ⟨rfl, hk⟩
        apply hK
        · rfl
        · conv => (lhs; whnf)
        · exact ⟨hwi.1.trans (hk.to (S := fun k => k = m)) (fun _ _ h => h), fun h => (hwi.2.1 h).same hk, fun h => (hwi.2.2 h).same hk⟩
       simp only [put_lit, put_none]
       try dsimp only [List.set_cons_succ, List.set_cons_zero]
       iterate 5
        apply Oblig.cons
        case h =>
         intro S w1 hwi hSi hd hcl
         apply StepOk.intro
         intro K hK
         have cb1 := (hwi.1.blk HCB2.out hcm).k8
         have hx1 := (cell_old hwi.1 HLZ.out hlm _).trans HX.out
         go_simp
         apply hK
         · rfl
         · conv => (lhs; whnf)
         · exact hwi
        simp only [put_lit, put_none]
        try dsimp only [List.set_cons_succ, List.set_cons_zero]
       apply Oblig.cons
       case h =>
        intro S w1 hwi hSi hd hcl
        apply StepOk.intro
        intro K hK
        have cb1 := (hwi.1.blk HCB2.out hcm).k8
        have hx1 := (cell_old hwi.1 HLZ.out hlm _).trans HX.out
        go_simp
        refine (ref_Poke' B _ m _ _ _ _ (rd L i) (hwi.2.1 hSi) (by omega) (by first | omega | (simp; omega)) (by first | omega | (simp; omega))).mono ?_
        rintro e w2 ⟨rfl, hm2, hk2⟩
        apply hK
        · rfl
        · conv => (lhs; whnf)
        · exact ⟨hwi.1.trans hk2 (fun _ _ h => h), fun h => by simp [upd] at h, fun _ => hm2⟩
       simp only [put_lit, put_none]
       try dsimp only [List.set_cons_succ, List.set_cons_zero]
       exact Oblig.nil
      case h0 =>
       exact ⟨HKC.out.drew, fun _ => HMC.out.same (Keep.refl _ _).drew, fun h => by cases h⟩
      case hend =>
       intro S wx hwi hall
       go_wp2_with fail
       go_meet
       exact ⟨hwi.2.2 (hall 9 (by decide)), hwi.1⟩
     case rest =>
      obtain ⟨hm1, hk1⟩ := hcut
      clear cb1 HMC HKC
      have HMC := hid hm1
      have HKC := hid hk1
      clear hm1 hk1
      have cb1 := (HKC.out.blk HCB2.out hcm).k8
      go_wp2_with fail
      refine (ref_Counter t s g l r k PA pn pc (some ⟨lb, lo, none⟩) ln lc i _ hs0 hs1 (by omega) (by omega)).mono ?_
      rintro e w3 ⟨rfl, hk3⟩
      have HM3 := hid (HMC.out.same hk3)
      have HK3 := hid (HKC.out.trans (hk3.to (S := fun k => k = m)) (fun _ _ h => h))
      clear hk3
      go_wp2_with fail
      refine (ref_Poke' B _ m _ _ _ _ 1 HM3.out (by omega) (by first | omega | (simp; omega)) (by first | omega | (simp; omega))).mono ?_
      rintro e w4 ⟨rfl, hm4, hk4⟩
      have HM4 := hid hm4
      have HK4 := hid (HK3.out.trans hk4 (fun _ _ h => h))
      clear hm4 hk4
      go_wp2_with fail
      go_roundw
      case rel => exact ⟨i + 1, by omega, by go_num, by rw [HXX.out]; exact HM4.out, HK4.out⟩
      case measure => simp [intOf]; omega
  · have hie : i = pn := by omega
    have HF := hid (show layN s L i (List.replicate (pn * (6 + 2 * s) + 2 * k).toNat 0) = freshW s k pn L by rw [hie]; rfl)
    clear hie
    go_wp2_with fail
    go_ret
    refine ⟨m, rfl, HF.out ▸ HMC.out, HK2.out.trans (T := fun k => k = m) HKC.out ?_ |>.mono (fun _ h => h), hm1⟩
    rintro k hk rfl
    omega
end Go.Proofs.YthaceckccobgeaaGreat
