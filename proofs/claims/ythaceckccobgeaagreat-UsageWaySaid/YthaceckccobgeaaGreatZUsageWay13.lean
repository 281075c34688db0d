/- Contracts and plain laws for UsageWay, part 13: what the walk of the law leans on. -/
import Derived.Deep.Slices
import Derived.Deep.Fields
import Derived.ChangeSame
import Derived.Deep.RegionLaw
import Derived.Deep.DeepCutAuto
import Derived.Deep.QuietTactic
import Derived.BigQuiet
import Derived.Test.YthaceckccobgeaaGreatZUsageWay1
import Derived.Test.YthaceckccobgeaaGreatZUsageWay2
import Derived.Test.YthaceckccobgeaaGreatZUsageWay3
import Derived.Test.YthaceckccobgeaaGreatZUsageWay4
import Derived.Test.YthaceckccobgeaaGreatZUsageWay5
import Derived.Test.YthaceckccobgeaaGreatZUsageWay11
import Derived.Test.YthaceckccobgeaaGreatZUsageWay12
namespace Go.Proofs.YthaceckccobgeaaGreat
open Go.ChangeShapes Go.WideShapes Go.ChangeAt Go.RowKit Go.Deep
set_option linter.unusedVariables false
set_option linter.unusedSimpArgs false
set_option maxRecDepth 100000
instance : Inhabited Pk := ⟨⟨0, 0, 0⟩⟩
def pksAt (w : World) (A : Option Addr) (l : List Pk) : Prop := l = [] ∨ ∃ b o, A = some ⟨b, o, none⟩ ∧ ∀ i (h : i < l.length), w.cell? ⟨b, o + i * 3, none⟩ = some (i64 l[i].at_) ∧ w.cell? ⟨b, o + i * 3 + 1, none⟩ = some (i64 l[i].w) ∧ w.cell? ⟨b, o + i * 3 + 2, none⟩ = some (i64 l[i].x)
section
variable {H : Type} {enc : TypeId × Value → H} {w : World} {base : Nat}
theorem pks_elem {fuel : Nat} {cs : List Value} {x : DataW H × List MemPlace} (h : DataW.trod enc Tryz.prog w base (fun _ => true) true fuel 104 cs = some x) : ∃ y : Pk, cs = [i64 y.at_, i64 y.w, i64 y.x] := by
 obtain ⟨xs, n, _, _, hlen, hxl, hf⟩ := DataW.trod_struct Tryz.underlying104 h
 have hlen8 : cs.length = 3 := hlen.trans (by kernel_rfl)
 obtain ⟨c0, c1, c2, rfl⟩ : ∃ c0 c1 c2, cs = [c0, c1, c2] := by
  match cs, hlen8 with
  | [c0, c1, c2], _ => exact ⟨_, _, _,  rfl⟩
 obtain ⟨y0, y1, y2, rfl⟩ : ∃ y0 y1 y2, xs = [y0, y1, y2] := by
  match xs, hxl with
  | [c0, c1, c2], _ => exact ⟨_, _, _,  rfl⟩
 have hci : Tryz.prog.cellsOf 3 = 1 := by kernel_rfl
 have f0 := hf 0 _ rfl
 have f1 := hf 1 _ rfl
 have f2 := hf 2 _ rfl
 simp [hci] at f0 f1 f2
 obtain ⟨z0, e0, _, _⟩ := DataW.trod_int Tryz.underlying3 f0
 obtain ⟨z1, e1, _, _⟩ := DataW.trod_int Tryz.underlying3 f1
 obtain ⟨z2, e2, _, _⟩ := DataW.trod_int Tryz.underlying3 f2
 simp only [List.cons.injEq, and_true] at e0 e1 e2
 subst e0 e1 e2
 exact ⟨⟨z0, z1, z2⟩, rfl⟩
end
end Go.Proofs.YthaceckccobgeaaGreat

namespace Go.Proofs.YthaceckccobgeaaGreat
open Go.ChangeShapes Go.WideShapes Go.ChangeAt Go.RowKit Go.Deep
set_option linter.unusedVariables false
set_option linter.unusedSimpArgs false
set_option maxRecDepth 100000
def U32At (w : World) (A : Option Addr) (l : List Int) : Prop := l = [] ∨ ∃ b o, A = some ⟨b, o, none⟩ ∧ ∀ i, i < l.length → w.cell? ⟨b, o + i, none⟩ = some (.int .u32 (rd l i))
theorem U32At.keep {w w' : World} {A : Option Addr} {l : List Int} (h : U32At w A l) (hk : Keep0 w w') : U32At w' A l := by
 rcases h with h | ⟨b, o, e1, h⟩
 · exact Or.inl h
 · refine Or.inr ⟨b, o, e1, fun i hi => ?_⟩
   rw [cell_old hk (World.block_lt_of_cell? _ _ (h i hi)) (fun x => x)]
   exact h i hi
theorem U32At.cell {w : World} {A : Option Addr} {l : List Int} (h : U32At w A l) (hl : 0 < l.length) : ∃ b o, A = some ⟨b, o, none⟩ ∧ (∀ i, i < l.length → w.cell? ⟨b, o + i, none⟩ = some (.int .u32 (rd l i))) := by
 rcases h with rfl | h
 · simp at hl
 · exact h
section
variable {H : Type} {enc : TypeId × Value → H} {w : World} {base : Nat}
theorem u32s_cells {fuel : Nat} {cs : List Value} {x : DataW H × List MemPlace} (h : DataW.trod enc Tryz.prog w base (fun _ => true) true fuel 28 cs = some x) :
 ∃ A l c, cs = [.slice A (List.length l) c] ∧ l.length ≤ 9223372036854775807 ∧ U32At w A l ∧ (∀ i, i < l.length → 0 ≤ rd l i ∧ rd l i ≤ 4294967295) := by
 rcases open_ints Tryz.underlying28 Tryz.underlying25 (by kernel_rfl) h with ⟨hcs, _⟩ | ⟨a, len, cap, zs, hcs, _, hl, hm, hz, _, hcell, hwf⟩
 · exact ⟨none, [], 0, hcs, by simp, Or.inl rfl, by simp⟩
 · simp only [if_true] at hz
   have hlen : (zs.take len).length = len := by rw [List.length_take]; omega
   refine ⟨some a, zs.take len, cap, by rw [hlen]; exact hcs, by rw [hlen]; unfold maxLen at hm; omega, ?_, ?_⟩
   · by_cases h0 : len = 0
     · left; subst h0; rfl
     · right
       have hc0 := hcell 0 (by omega)
       have hsp : a.spot = none := by
        unfold World.cell? at hc0
        cases hs : a.spot with
        | none => rfl
        | some x => simp [Addr.add, hs] at hc0; split at hc0 <;> simp_all
       obtain ⟨b, o, sp⟩ := a
       simp only at hsp
       subst hsp
       refine ⟨b, o, rfl, fun i hi => ?_⟩
       rw [hlen] at hi
       have hc := hcell i (by omega)
       have e : (⟨b, o, none⟩ : Addr).add i = ⟨b, o + i, none⟩ := by unfold Addr.add; split <;> simp_all
       rw [e] at hc
       rw [hc]
       simp [rd, List.getD, List.getElem?_take, hi]
   · intro i hi
     rw [hlen] at hi
     have e : rd (zs.take len) i = zs[i]'(by omega) := by simp [rd, List.getD, List.getElem?_take, hi]; rw [List.getElem?_eq_getElem (by omega)]; rfl
     rw [e]
     exact bounds_u32 (hwf _ (List.getElem_mem _))
theorem pks_cells {fuel : Nat} {cs : List Value} {x : DataW H × List MemPlace} (hf : DataW.trod enc Tryz.prog w base (fun _ => true) true fuel 29 cs = some x) : ∃ A l c, cs = [.slice A (List.length l) c] ∧ l.length ≤ 9223372036854775807 ∧ pksAt w A l := by
 rcases open_slice Tryz.underlying29 hf with ⟨hcs, _⟩ | ⟨a, len, cap, m, n', D, Pl, hcs, hb, hl, hm, hmm, hx, hi⟩
 · exact ⟨none, [], 0, hcs, by simp, Or.inl rfl⟩
 · have hC : Tryz.prog.cellsOf 104 = 3 := by kernel_rfl
   simp only [if_true] at hmm
   subst hmm
   rw [hC] at hi
   obtain ⟨V, hV⟩ := choose_lt (α := Pk) (n := len) (p := fun i y => w.cells? base (a.add (i * 3)) 3 = some [i64 y.at_, i64 y.w, i64 y.x]) (fun i h => by
    obtain ⟨cs', h1, h2⟩ := hi i (by omega)
    obtain ⟨y, rfl⟩ := pks_elem h2
    exact ⟨y, h1⟩)
   have hlen : ((List.range len).map V).length = len := by simp
   refine ⟨some a, (List.range len).map V, _, by rw [hlen]; exact hcs, by rw [hlen]; unfold maxLen at hm; omega, ?_⟩
   by_cases h0 : len = 0
   · left; subst h0; rfl
   · right
     have hc0 := (World.cells?_some (hV 0 (by omega))).2.2 0 (by omega)
     have hsp : a.spot = none := by
      unfold World.cell? at hc0
      cases hs : a.spot with
      | none => rfl
      | some x => simp [Addr.add, hs] at hc0; split at hc0 <;> simp_all
     obtain ⟨b, o, sp⟩ := a
     simp only at hsp
     subst hsp
     refine ⟨b, o, rfl, fun i hi => ?_⟩
     rw [hlen] at hi
     have hg : ((List.range len).map V)[i]'(by rw [hlen]; exact hi) = V i := by simp
     rw [hg]
     have hc := (World.cells?_some (hV i hi)).2.2
     have e : ∀ j, (⟨b, o, none⟩ : Addr).add j = ⟨b, o + j, none⟩ := fun j => by unfold Addr.add; split <;> simp_all
     have e' : ∀ j, (⟨b, o + i * 3, none⟩ : Addr).add j = ⟨b, o + i * 3 + j, none⟩ := fun j => by unfold Addr.add; split <;> simp_all
     simp only [e, e'] at hc
     exact ⟨hc 0 (by omega), hc 1 (by omega), hc 2 (by omega)⟩
end
end Go.Proofs.YthaceckccobgeaaGreat

namespace Go.Proofs.YthaceckccobgeaaGreat
open Go.RowKit
set_option linter.unusedVariables false
set_option linter.unusedSimpArgs false
set_option maxRecDepth 100000
theorem meth_nStep (x : Nat) (w : World) : (method 263 57 (ptr x) "Step").run Tryz.prog w = .ok (139, ptr x) w := by kernel_rfl
theorem callF_nStep (args : Array Value) (w : World) : (callFunc 139 args).run Tryz.prog w = .ok (.enter 139 args) w := by go_simp
section
variable {B : Nat} {w : World} {m a x : Nat} {lv : Value} {b s : Nat} {R : Nat → Prop}
set_option maxHeartbeats 1000000 in
theorem snap_Count (b s : Nat) (r : Int) (w : World) (hs : s ≤ 8) (hb : b ≤ 1000000) :
 Calls Tryz.prog 75 #[i64 (b : Int), i64 (s : Int), i64 r] w fun e w' => ∃ x R, e = .returned (ptr x) ∧ Keep0 w w' ∧ (∀ W L, SnR b s R w' x ⟨W, L, r, [], 0, false, false⟩) ∧ (∀ k, R k → w.heap.size ≤ k) := by
 have HT := hid (fun (w1 : World) (hx : Blk w1 w.heap.size 110 [i64 (b : Int), i64 (s : Int), i64 r, .nilFunc, .nilFunc, i64 0, i64 0, .bool false, i64 0, .bool false]) => snap_try b s w.heap.size (i64 r) .nilFunc .nilFunc (i64 0) (i64 0) (.bool false) (i64 0) (.bool false) w1 hs hb hx)
 go_enter Tryz.func75, Tryz.ntmps75
 go_wp2_with fail
 have HX := hid (show Blk (w.alloc (.cells #[i64 (b : Int), i64 (s : Int), i64 r, .nilFunc, .nilFunc, i64 0, i64 0, .bool false, i64 0, .bool false] 110)) w.heap.size 110 [i64 (b : Int), i64 (s : Int), i64 r, .nilFunc, .nilFunc, i64 0, i64 0, .bool false, i64 0, .bool false] from Blk.made rfl rfl)
 have HK := hid ((Keep.refl (fun _ => False) w).alloc (.cells #[i64 (b : Int), i64 (s : Int), i64 r, .nilFunc, .nilFunc, i64 0, i64 0, .bool false, i64 0, .bool false] 110))
 refine (HT.out _ HX.out).mono ?_
 rintro e w2 ⟨rfl, po, pg, px, go, oc, t1, t2, t3, t4, t5, t6, t7, t8⟩
 have hz := HK.out.size
 have HQ := hid (show ∀ W L, SnR b s (fun k => w.heap.size ≤ k ∧ k < w2.heap.size) w2 w.heap.size ⟨W, L, r, [], 0, false, false⟩ from fun W L => ⟨fun k h => h.2, ⟨Nat.le_refl _, t1.lt⟩, _, _, t1, fun _ => ⟨po, pg, px, go, oc, none, 0, rfl, rfl, t2, t3, t4, t5, World.ownsRow_nil _ _ _ _, t7, ⟨⟨Nat.le_trans hz t6.1, t2.lt⟩, ⟨Nat.le_trans hz t6.2.1, t5.lt⟩, ⟨Nat.le_trans hz t6.2.2.1, t4.lt⟩, ⟨Nat.le_trans hz t6.2.2.2, t3.lt⟩⟩, fun k e => by simp [Value.ownBlock] at e⟩⟩)
 have HK2 : Hid (Keep0 w w2) := hid (HK.out.trans (S := fun _ => False) t8 (fun k hk e => by have e' : k = w.heap.size := e; omega))
 clear t1 t2 t3 t4 t5 t6 t7 t8
 go_wp2_with fail
 go_ret
 exact ⟨_, _, rfl, HK2.out, HQ.out, fun k h => h.1⟩
set_option maxHeartbeats 400000 in
theorem snap_Ans (b s : Nat) (nx tk : Value) (t : SN) (hx : Blk w x 110 (ncs b s nx tk t)) :
 Calls Tryz.prog 30 #[ptr x] w (Ret (.agg #[i64 0, i64 t.n, .bool t.ex, i64 0]) w) := by
 have qx := (show Blk w x 110 [i64 (b : Int), i64 (s : Int), i64 t.left, nx, tk, i64 0, i64 t.n, .bool t.ex, i64 0, .bool t.fin] from hx).k10
 clear hx
 go_enter Tryz.func30, Tryz.ntmps30
 go_wp2
 exact bodyPost_ret (v := .agg #[i64 0, i64 t.n, .bool t.ex, i64 0]) (by simp [results, Tryz.results30, go_sem]) rfl ⟨rfl, (Keep.refl _ _).alloc _⟩
structure PkR (b : Nat) (R : Nat → Prop) (w : World) (x : Nat) (t : SN) : Prop where
 lt : ∀ k, R k → k < w.heap.size
 rx : R x
 at_ : ∃ pb px, Blk w x 110 [i64 (b : Int), i64 0, i64 0, .func (.func 108) #[] #[ptr pb], .func (.func 109) #[] #[ptr px], i64 0, i64 t.n, .bool false, i64 0, .bool t.fin] ∧ Blk w pb 3 [i64 (b : Int)] ∧ Blk w px 57 [ptr x] ∧ R pb ∧ R px ∧ t.ex = false
set_option maxHeartbeats 1000000 in
theorem snap_Peek (b : Nat) (w : World) :
 Calls Tryz.prog 79 #[i64 (b : Int)] w fun e w' => ∃ x R, e = .returned (ptr x) ∧ Keep0 w w' ∧ (∀ W L, PkR b R w' x ⟨W, L, 0, [], 0, false, false⟩) ∧ (∀ k, R k → w.heap.size ≤ k) := by
 go_enter Tryz.func79, Tryz.ntmps79
 go_wp2_with fail
 go_ret
 exact ⟨w.heap.size + 1, fun k => w.heap.size ≤ k ∧ k < w.heap.size + 3, rfl, (((Keep.refl _ w).alloc _).alloc _).alloc _, fun W L => ⟨fun k h => by simp; omega, ⟨by omega, by omega⟩, w.heap.size, w.heap.size + 2, (Blk.made (by simp) rfl).alloc _, ((Blk.made rfl rfl).alloc _).alloc _, Blk.made (by simp) rfl, ⟨Nat.le_refl _, by omega⟩, ⟨by omega, by omega⟩, rfl⟩, fun k h => h.1⟩
set_option maxHeartbeats 400000 in
theorem peek_next (b pb : Nat) (w : World) (hb : b ≤ 1000000) (h : Blk w pb 3 [i64 (b : Int)]) : Calls Tryz.prog 108 #[ptr pb] w fun e w' => e = .returned (i64 (b : Int)) ∧ w = w' := by
 have q := h.k1
 have y : IntKind.i64.wrap ((b : Int) + 0) = (b : Int) := by rw [Int.add_zero]; exact IntWalk.i64_in _ (by omega)
 have y2 : IntKind.i64.wrap (b : Int) = (b : Int) := IntWalk.i64_in _ (by omega)
 clear h
 go_enter Tryz.func108, Tryz.ntmps108
 go_wp2_with fail
 go_ret
 exact ⟨rfl, rfl⟩
set_option maxHeartbeats 1000000 in
theorem peek_take (px : Nat) (n : Int) (c1 c2 c3 c4 c5 c6 c7 c8 c9 c10 : Value) (w : World) (h : Blk w px 57 [ptr x]) (hx : Blk w x 110 [c1, c2, c3, c4, c5, c6, c7, c8, c9, c10]) :
 Calls Tryz.prog 109 #[i64 n, ptr px] w fun e w' => e = .returned (.tuple #[]) ∧ Blk w' x 110 [c1, c2, c3, c4, c5, i64 0, i64 n, .bool false, i64 0, .bool true] ∧ Keep (fun k => k = x) w w' := by
 have q := h.k1
 have HX := hid hx
 have qx := hx.k10
 clear h hx
 go_enter Tryz.func109, Tryz.ntmps109
 go_region
 go_end0
 have hb := (((((HX.out.set 5 (i64 0)).set 6 (i64 n)).set 7 (.bool false)).set 8 (i64 0)).set 9 (.bool true)).drew
 simp only [List.set_cons_succ, List.set_cons_zero] at hb
 exact ⟨rfl, hb, by refine Keep.drew ?_; repeat (with_reducible first | exact Keep.refl _ _ | refine Keep.set ?_ _ _ (fun _ => rfl))⟩
def PkQ (B : Nat) (w : World) (m a : Nat) (lv : Value) (x b : Nat) (R : Nat → Prop) (t : SN) (w' : World) : Prop :=
 ∃ lv' R', MemAt B w' m a lv' t.W t.L ∧ PkR b R' w' x t ∧ Keep (fun k => MF m a lv k ∨ R k) w w' ∧ (∀ k, lv'.ownBlock = some k → lv.ownBlock = some k ∨ w.heap.size ≤ k) ∧ (∀ k, R' k → R k ∨ w.heap.size ≤ k) ∧ (∀ k, R' k → ¬ MF m a lv' k)
theorem PkR.keep {S : Nat → Prop} {w' : World} {t : SN} (h : PkR b R w x t) (hk : Keep S w w') (hS : ∀ k, R k → ¬ S k) : PkR b R w' x t := by
 obtain ⟨pb, px, h1, h2, h3, h4, h5, h6⟩ := h.at_
 exact ⟨fun k hr => Nat.lt_of_lt_of_le (h.lt k hr) hk.size, h.rx, pb, px, hk.blk h1 (hS _ h.rx), hk.blk h2 (hS _ h4), hk.blk h3 (hS _ h5), h4, h5, h6⟩
theorem pk_Step (t : SN) (hm : MemAt B w m a lv t.W t.L) (hx : PkR b R w x t) (hR : ∀ k, R k → ¬ MF m a lv k) (hv : b < t.W.length) (hb : b ≤ 1000000) (hL : t.L.length ≤ 1000000000) :
 Calls Tryz.prog 139 #[ptr x, ptr m] w fun e w' => e = .returned (.bool (gStp b t).2) ∧ PkQ B w m a lv x b R (gStp b t).1 w' := by
 show Calls _ _ _ _ (fun e w' => e = .returned (.bool (gNext b t).fin) ∧ PkQ B w m a lv x b R (gNext b t) w')
 obtain ⟨pb, px, h1, h2, h3, h4, h5, h6⟩ := hx.at_
 cases hf : t.fin with
 | true =>
  have h1' := h1
  rw [hf] at h1'
  rw [gNext_over hf, hf]
  refine (snap_Step_end h1').mono ?_
  rintro e w' ⟨rfl, rfl⟩
  exact ⟨rfl, lv, R, hm, hx, Keep.refl _ _, fun _ h => Or.inl h, fun _ h => Or.inl h, hR⟩
 | false =>
  rw [hf] at h1
  have hxf := hR x hx.rx
  have e0 : gNext b t = { t with L := t.L ++ [⟨1, (b : Nat), rd t.W b, 0, false⟩], n := rd t.W b, fin := true } := by unfold gNext; rw [if_neg (by rw [hf]; decide)]
  rw [e0]
  refine (snap_Step_peek (T := fun w1 w2 => Blk w2 x 110 [i64 (b : Int), i64 0, i64 0, .func (.func 108) #[] #[ptr pb], .func (.func 109) #[] #[ptr px], i64 0, i64 (rd t.W b), .bool false, i64 0, .bool true] ∧ Keep (fun k => k = x) w1 w2) true hm h1 hxf hv hL (fun w1 hk => peek_next b pb w1 hb (hk.blk h2 (fun h => h))) (fun w1 hk => peek_take px (rd t.W b) _ _ _ _ _ _ _ _ _ _ w1 (hk.blk h3 (hR _ h5)) (hk.blk h1 hxf)) (fun w1 w2 _ ht => ht.1.cell 9)).mono ?_
  rintro e w' ⟨rfl, lv1, w1, hm1, hk1, ho1, t1, t2⟩
  have hxb : pb ≠ x := h2.ne h1 (by decide)
  have hxp : px ≠ x := h3.ne h1 (by decide)
  have hRm1 : ∀ k, R k → ¬ MF m a lv1 k := by
   intro k hr
   rintro (h | h | h)
   · exact hR k hr (Or.inl h)
   · exact hR k hr (Or.inr (Or.inl h))
   · rcases ho1 k h with h2 | h2
     · exact hR k hr (Or.inr (Or.inr h2))
     · have := hx.lt k hr; omega
  have hz1 := hk1.size
  have hz2 := t2.size
  refine ⟨rfl, lv1, R, hm1.keep t2 (fun k hkk e => hRm1 x hx.rx (by have e' : k = x := e; exact e' ▸ hkk)), ⟨fun k hr => by have := hx.lt k hr; omega, hx.rx, pb, px, t1, t2.blk (hk1.blk h2 (hR _ h4)) hxb, t2.blk (hk1.blk h3 (hR _ h5)) hxp, h4, h5, h6⟩, (hk1.mono (fun _ h => Or.inl h)).trans t2 (fun k _ e => Or.inr (by have e' : k = x := e; exact e' ▸ hx.rx)), ho1, fun _ h => Or.inl h, hRm1⟩
theorem peek_Ans (t : SN) (hx : PkR b R w x t) : Calls Tryz.prog 30 #[ptr x] w (Ret (.agg #[i64 0, i64 t.n, .bool t.ex, i64 0]) w) := by
 obtain ⟨pb, px, h1, _, _, _, _, h6⟩ := hx.at_
 have h : Blk w x 110 (ncs b 0 (.func (.func 108) #[] #[ptr pb]) (.func (.func 109) #[] #[ptr px]) { t with left := 0 }) := by unfold ncs; rw [h6]; exact h1
 exact snap_Ans b 0 _ _ { t with left := 0 } h
theorem count_Ans (t : SN) (hx : SnR b s R w x t) : Calls Tryz.prog 30 #[ptr x] w (Ret (.agg #[i64 0, i64 t.n, .bool t.ex, i64 0]) w) := by
 obtain ⟨nx, tk, h, _⟩ := hx.at_
 exact snap_Ans b s nx tk t h
end
theorem SnR.poke {b s : Nat} {R : Nat → Prop} {w : World} {x : Nat} {t : SN} (h : SnR b s R w x t) (i : Nat) (y : Int) : SnR b s R w x (nPk t i y) := ⟨h.lt, h.rx, h.at_⟩
theorem PkR.poke {b : Nat} {R : Nat → Prop} {w : World} {x : Nat} {t : SN} (h : PkR b R w x t) (i : Nat) (y : Int) : PkR b R w x (nPk t i y) := ⟨h.lt, h.rx, h.at_⟩
theorem nNext_logle (b s : Nat) (t : SN) : (nNext b s t).L.length ≤ t.L.length + 1 := by
 cases hf : t.fin with
 | true => rw [nNext_over hf]; omega
 | false => rw [nNext_L hf]; simp
theorem gNext_logle (b : Nat) (t : SN) : (gNext b t).L.length ≤ t.L.length + 1 := by
 unfold gNext
 split
 · omega
 · simp
theorem gNext_W (b : Nat) (t : SN) : (gNext b t).W = t.W := by
 unfold gNext
 split <;> rfl
end Go.Proofs.YthaceckccobgeaaGreat


namespace Go.Proofs.YthaceckccobgeaaGreat
open Go.RowKit
set_option linter.unusedVariables false
set_option linter.unusedSimpArgs false
set_option maxRecDepth 100000
def GInv (b : Nat) (t : SN) : Prop := b < t.W.length ∧ (t.fin = false → t.n = 0 ∧ t.ex = false)
theorem GInv.step {b : Nat} {t : SN} (h : GInv b t) : GInv b (gNext b t) := by
 refine ⟨by rw [gNext_W]; exact h.1, fun e => ?_⟩
 by_cases hf : t.fin = true
 · rw [gNext_over hf] at e ⊢; exact h.2 e
 · have e1 : (gNext b t).fin = true := by unfold gNext; rw [if_neg hf]
   rw [e1] at e
   cases e
end Go.Proofs.YthaceckccobgeaaGreat


namespace Go.Proofs.YthaceckccobgeaaGreat
open Go.RowKit
set_option linter.unusedVariables false
set_option linter.unusedSimpArgs false
set_option maxRecDepth 100000
end Go.Proofs.YthaceckccobgeaaGreat


namespace Go.Proofs.YthaceckccobgeaaGreat
open Go.RowKit
set_option linter.unusedVariables false
set_option linter.unusedSimpArgs false
set_option maxRecDepth 100000
end Go.Proofs.YthaceckccobgeaaGreat

namespace Go.Proofs.YthaceckccobgeaaGreat
open Go.RowKit
set_option linter.unusedVariables false
set_option linter.unusedSimpArgs false
set_option maxRecDepth 100000
def snO (b s x : Nat) (t : SN) : Ass := ⟨fun R w => SnR b s R w x t, fun h hk hS => h.keep hk hS, fun h k hk => h.lt k hk⟩
def pkO (b x : Nat) (t : SN) : Ass := ⟨fun R w => PkR b R w x t, fun h hk hS => h.keep hk hS, fun h k hk => h.lt k hk⟩
theorem memx_post {B m a : Nat} {lv : Value} {W' : List Int} {L' : List Acc} {X' : Ass} {U Rm Rx : Nat → Prop} {w w' : World} (e1 : ∀ k, Rm k ↔ MF m a lv k) (e : ∀ k, U k ↔ Rm k ∨ Rx k)
 (h : ∃ lv' R', MemAt B w' m a lv' W' L' ∧ X'.At R' w' ∧ Keep (fun k => MF m a lv k ∨ Rx k) w w' ∧ (∀ k, lv'.ownBlock = some k → lv.ownBlock = some k ∨ w.heap.size ≤ k) ∧ (∀ k, R' k → Rx k ∨ w.heap.size ≤ k) ∧ (∀ k, R' k → ¬ MF m a lv' k)) : Tr ((memO B m W' L').star X') U w w' := by
 obtain ⟨lv', R', h1, h2, h3, h4, h5, h6⟩ := h
 refine ⟨fun k => MF m a lv' k ∨ R' k, ⟨MF m a lv', R', ⟨a, lv', h1, fun k => Iff.rfl⟩, h2, fun k hm hr => h6 k hr hm, fun k => Iff.rfl⟩, h3.mono (fun k h => (e k).2 (h.imp (e1 k).2 id)), ?_⟩
 rintro k ((h | h | h) | h)
 · exact Or.inl ((e k).2 (Or.inl ((e1 k).2 (Or.inl h))))
 · exact Or.inl ((e k).2 (Or.inl ((e1 k).2 (Or.inr (Or.inl h)))))
 · exact (h4 k h).imp (fun h => (e k).2 (Or.inl ((e1 k).2 (Or.inr (Or.inr h))))) id
 · exact (h5 k h).imp (fun h => (e k).2 (Or.inr h)) id
section
variable {B m x y b s : Nat} {R : Nat → Prop} {w : World} {t : SN}
theorem snO_Step (h : ((memO B m t.W t.L).star (snO b s x t)).At R w) (hi : NInv b s t) (hb : b ≤ 1000000) (hL : t.L.length ≤ 1000000000) :
 Calls Tryz.prog 139 #[ptr x, ptr m] w fun e w' => e = .returned (.bool (nStp b s t).2) ∧ Tr ((memO B m (nStp b s t).1.W (nStp b s t).1.L).star (snO b s x (nStp b s t).1)) R w w' := by
 obtain ⟨Rm, Rx, ⟨a, lv, hm, e1⟩, hx, hd, e2⟩ := h
 refine (sn_Step t hm hx (fun k hr h => hd k ((e1 k).2 h) hr) hi hb hL).mono ?_
 rintro e w' ⟨rfl, h⟩
 exact ⟨rfl, memx_post e1 e2 h⟩
theorem pkO_Step (h : ((memO B m t.W t.L).star (pkO b x t)).At R w) (hi : GInv b t) (hb : b ≤ 1000000) (hL : t.L.length ≤ 1000000000) :
 Calls Tryz.prog 139 #[ptr x, ptr m] w fun e w' => e = .returned (.bool (gStp b t).2) ∧ Tr ((memO B m (gStp b t).1.W (gStp b t).1.L).star (pkO b x (gStp b t).1)) R w w' := by
 obtain ⟨Rm, Rx, ⟨a, lv, hm, e1⟩, hx, hd, e2⟩ := h
 refine (pk_Step t hm hx (fun k hr h => hd k ((e1 k).2 h) hr) hi.1 hb hL).mono ?_
 rintro e w' ⟨rfl, h⟩
 exact ⟨rfl, memx_post e1 e2 h⟩
theorem snO_New (b s : Nat) (r : Int) (w : World) (W : List Int) (L : List Acc) (hs : s ≤ 8) (hb : b ≤ 1000000) :
 Calls Tryz.prog 75 #[i64 (b : Int), i64 (s : Int), i64 r] w fun e w' => ∃ x, e = .returned (ptr x) ∧ Nw (snO b s x ⟨W, L, r, [], 0, false, false⟩) w w' := by
 refine (snap_Count b s r w hs hb).mono ?_
 rintro e w' ⟨x, R, rfl, hk, h, hr⟩
 exact ⟨x, rfl, R, h W L, hk, hr⟩
theorem pkO_New (b : Nat) (w : World) (W : List Int) (L : List Acc) :
 Calls Tryz.prog 79 #[i64 (b : Int)] w fun e w' => ∃ x, e = .returned (ptr x) ∧ Nw (pkO b x ⟨W, L, 0, [], 0, false, false⟩) w w' := by
 refine (snap_Peek b w).mono ?_
 rintro e w' ⟨x, R, rfl, hk, h, hr⟩
 exact ⟨x, rfl, R, h W L, hk, hr⟩
def PI7 (Inv : SN → Prop) (len L0 : Nat) (n : Nat) (t : SN) : Prop := Inv t ∧ t.W.length = len ∧ t.L.length ≤ L0 + n
section
variable (t : SN) (l : List Pk) (A0 : Option Addr) (kb ko c most : Nat) (hb : b ≤ 1000000) (hL : t.L.length ≤ 1000000) (hmost : most ≤ 2000) (hl : l.length ≤ 1000000) (hlen : t.W.length ≤ 1000000)
 (hA0 : 0 < l.length → A0 = some ⟨kb, ko, none⟩ ∧ kb < w.heap.size ∧ ¬ R kb)
 (hcells : ∀ i (h : i < l.length), w.cell? ⟨kb, ko + i * 3, none⟩ = some (i64 l[i].at_) ∧ w.cell? ⟨kb, ko + i * 3 + 1, none⟩ = some (i64 l[i].w) ∧ w.cell? ⟨kb, ko + i * 3 + 2, none⟩ = some (i64 l[i].x))
include hb hL hmost hl hA0 hcells hlen
theorem snO_Play (h : ((memO B m t.W t.L).star (snO b s x t)).At R w) (hi : NInv b s t) :
 Calls Tryz.prog 28 #[ptr m, .iface 57 (ptr x), .slice A0 l.length c, i64 most] w fun e w' =>
  e = .returned (.tuple #[i64 (playF (nStp b s) nPk t.W.length l most 0 t).2.1, .bool (playF (nStp b s) nPk t.W.length l most 0 t).2.2]) ∧ Tr ((memO B m (playF (nStp b s) nPk t.W.length l most 0 t).1.W (playF (nStp b s) nPk t.W.length l most 0 t).1.L).star (snO b s x (playF (nStp b s) nPk t.W.length l most 0 t).1)) R w w' ∧ ∃ n, PI7 (NInv b s) t.W.length t.L.length n (playF (nStp b s) nPk t.W.length l most 0 t).1 := by
 refine play_SL (fun t => (memO B m t.W t.L).star (snO b s x t)) (PI7 (NInv b s) t.W.length t.L.length) (nStp b s) nPk t.W.length 139 57 x m l A0 kb ko c most w R t (by omega) hl hlen h ⟨hi, rfl, by omega⟩ hA0 hcells ?_ ?_ ?_ ?_ ?_ (fun w => meth_nStep x w) callF_nStep
 · rintro n R w t1 ⟨Rm, Rx, h1, _⟩ ⟨_, e, _⟩
   rw [← e]
   exact memO_mem h1
 · rintro n t1 i y _ _ ⟨h1, h2, h3⟩
   exact ⟨h1.poke i y, by simpa [nPk] using h2, h3⟩
 · rintro n t1 hn ⟨h1, h2, h3⟩
   exact ⟨h1.step, by show (nNext b s t1).W.length = _; rw [nNext_W]; exact h2, by have := nNext_logle b s t1; show (nNext b s t1).L.length ≤ _; omega⟩
 · rintro n R w t1 i y _ h1 ⟨_, e, _⟩ hi0 hi1
   obtain ⟨Rm, Rx, g1, g2, g3, g4⟩ := h1
   refine (memO_Poke i y g1 hi0 (by omega)).mono ?_
   rintro e w2 ⟨rfl, h⟩
   exact ⟨rfl, Tr.frame1 (r := snO b s x (nPk t1 i.toNat y)) (show SnR b s Rx w x (nPk t1 i.toNat y) from SnR.poke g2 _ _) g3 g4 h⟩
 · rintro n R w t1 hn h1 ⟨h2, h3, h4⟩
   exact snO_Step h1 h2 hb (by omega)
theorem pkO_Play (h : ((memO B m t.W t.L).star (pkO b x t)).At R w) (hi : GInv b t) :
 Calls Tryz.prog 28 #[ptr m, .iface 57 (ptr x), .slice A0 l.length c, i64 most] w fun e w' =>
  e = .returned (.tuple #[i64 (playF (gStp b) nPk t.W.length l most 0 t).2.1, .bool (playF (gStp b) nPk t.W.length l most 0 t).2.2]) ∧ Tr ((memO B m (playF (gStp b) nPk t.W.length l most 0 t).1.W (playF (gStp b) nPk t.W.length l most 0 t).1.L).star (pkO b x (playF (gStp b) nPk t.W.length l most 0 t).1)) R w w' ∧ ∃ n, PI7 (GInv b) t.W.length t.L.length n (playF (gStp b) nPk t.W.length l most 0 t).1 := by
 refine play_SL (fun t => (memO B m t.W t.L).star (pkO b x t)) (PI7 (GInv b) t.W.length t.L.length) (gStp b) nPk t.W.length 139 57 x m l A0 kb ko c most w R t (by omega) hl hlen h ⟨hi, rfl, by omega⟩ hA0 hcells ?_ ?_ ?_ ?_ ?_ (fun w => meth_nStep x w) callF_nStep
 · rintro n R w t1 ⟨Rm, Rx, h1, _⟩ ⟨_, e, _⟩
   rw [← e]
   exact memO_mem h1
 · rintro n t1 i y _ _ ⟨h1, h2, h3⟩
   exact ⟨⟨by simpa [nPk] using h1.1, h1.2⟩, by simpa [nPk] using h2, h3⟩
 · rintro n t1 hn ⟨h1, h2, h3⟩
   exact ⟨h1.step, by show (gNext b t1).W.length = _; rw [gNext_W]; exact h2, by have := gNext_logle b t1; show (gNext b t1).L.length ≤ _; omega⟩
 · rintro n R w t1 i y _ h1 ⟨_, e, _⟩ hi0 hi1
   obtain ⟨Rm, Rx, g1, g2, g3, g4⟩ := h1
   refine (memO_Poke i y g1 hi0 (by omega)).mono ?_
   rintro e w2 ⟨rfl, h⟩
   exact ⟨rfl, Tr.frame1 (r := pkO b x (nPk t1 i.toNat y)) (show PkR b Rx w x (nPk t1 i.toNat y) from PkR.poke g2 _ _) g3 g4 h⟩
 · rintro n R w t1 hn h1 ⟨h2, h3, h4⟩
   exact pkO_Step h1 h2 hb (by omega)
end
end
end Go.Proofs.YthaceckccobgeaaGreat

namespace Go.Proofs.YthaceckccobgeaaGreat
open Go.RowKit
set_option linter.unusedVariables false
set_option linter.unusedSimpArgs false
set_option maxRecDepth 100000
def p14 : P12 := ⟨2, 2, 4, 4, 2, 3, [-1, 0, 1, 0], [20, 10, 8, 5], 2, 4, 0, [2, 1, 0]⟩
def fw14 : List Int := [20, 14, 2, 0, 4, 1, 1, 1, 4294967296, 0, 10, 4, 2, 0, 4, 1, 1, 1, 4294967296, 0, 8, 2, 2, 0, 4, 1, 1, 1, 4294967296, 0, 5, 5, 0, 0, 0, 0, 0, 1, 0, 0, 8589934594, 4194308, 0, 0, 0, 0]
theorem head14_a : (playF (stp12 p14) pk12 46 [] 300 0 (start12 p14 (freshW 2 3 4 [20, 10, 8, 5]) [])).1.W = fw14 ∧ (playF (stp12 p14) pk12 46 [] 300 0 (start12 p14 (freshW 2 3 4 [20, 10, 8, 5]) [])).2 = (37, true) := by
 constructor <;> kernel_rfl
theorem p14_ok : P12OK p14 := by
 refine ⟨by unfold p2 p14; decide, by decide, by decide, by decide, by decide, by decide, by decide, by decide, by decide, by decide, by decide⟩
theorem par14 : ParR p14.P := by
 intro i hi
 have hi : i < 4 := hi
 match i, hi with
 | 0, _ => exact ⟨fun _ => rfl, fun h => by omega⟩
 | 1, _ => exact ⟨fun h => by omega, fun _ => by decide⟩
 | 2, _ => exact ⟨fun h => by omega, fun _ => by decide⟩
 | 3, _ => exact ⟨fun h => by omega, fun _ => by decide⟩
theorem path14 : p14.path = pathN p14.P p14.nd := by kernel_rfl
theorem use14 : lvB 4 fw14 40 = true ∧ lvV 4 fw14 40 = 2 ∧ lvN 4 fw14 40 = 4 ∧ lvB 4 fw14 42 = false ∧ lvV 4 fw14 42 = 0 ∧ lvN 4 fw14 42 = 0 ∧ usedN [-1, 0, 1, 0] fw14 40 3 0 = 4 ∧ usedN [-1, 0, 1, 0] fw14 40 3 3 = 0 ∧ usedN [-1, 0, 1, 0] fw14 40 3 1 = 4 ∧ leftN fw14 11 2 = 6 := by
 refine ⟨?_, ?_, ?_, ?_, ?_, ?_, ?_, ?_, ?_, ?_⟩ <;> kernel_rfl
theorem wok14 : WOK p14 20 (freshW 2 3 4 [20, 10, 8, 5]) := by
 refine ⟨by kernel_rfl, ?_, ?_, ?_⟩
 · intro v hv
   have hv : v < 4 := hv
   match v, hv with
   | 0, _ | 1, _ | 2, _ | 3, _ => decide
 · intro v hv u hu
   have hv : v < 4 := hv
   have hu : u < 2 := hu
   match v, hv, u, hu with
   | 0, _, 0, _ | 1, _, 0, _ | 2, _, 0, _ | 3, _, 0, _ | 0, _, 1, _ | 1, _, 1, _ | 2, _, 1, _ | 3, _, 1, _ => decide
 · intro v hv
   have hv : v < 4 := hv
   match v, hv with
   | 0, _ | 1, _ | 2, _ | 3, _ => unfold p2; decide
theorem head14_b : (playF (nStp 14 2) nPk 46 [] 50 0 (⟨fw14, [], 2, [], 0, false, false⟩ : SN)).2 = (8, true) ∧ (playF (nStp 14 2) nPk 46 [] 50 0 (⟨fw14, [], 2, [], 0, false, false⟩ : SN)).1.W = fw14 ∧ (playF (nStp 14 2) nPk 46 [] 50 0 (⟨fw14, [], 2, [], 0, false, false⟩ : SN)).1.L.length = 8 ∧ (playF (nStp 14 2) nPk 46 [] 50 0 (⟨fw14, [], 2, [], 0, false, false⟩ : SN)).1.n = 4 ∧ (playF (nStp 14 2) nPk 46 [] 50 0 (⟨fw14, [], 2, [], 0, false, false⟩ : SN)).1.ex = true := by
 refine ⟨?_, ?_, ?_, ?_, ?_⟩ <;> kernel_rfl
theorem head14_c (L : List Acc) : (playF (gStp 14) nPk 46 [] 50 0 (⟨fw14, L, 0, [], 0, false, false⟩ : SN)).2 = (1, true) ∧ (playF (gStp 14) nPk 46 [] 50 0 (⟨fw14, L, 0, [], 0, false, false⟩ : SN)).1.W = fw14 ∧ (playF (gStp 14) nPk 46 [] 50 0 (⟨fw14, L, 0, [], 0, false, false⟩ : SN)).1.n = 4 ∧ (playF (gStp 14) nPk 46 [] 50 0 (⟨fw14, L, 0, [], 0, false, false⟩ : SN)).1.ex = false := by
 refine ⟨?_, ?_, ?_, ?_⟩ <;> rfl
theorem usage_Count (t s g l r k : Int) (PA : Option Addr) (pn pc : Nat) (LA : Option Addr) (ln lc : Nat) (v : Int) (b : Nat) (w : World) (W : List Int) (L : List Acc) (hs0 : 1 ≤ s) (hs1 : s ≤ 8) (h0 : 0 ≤ v) (h1 : v ≤ 1000) (hb : (b : Int) = v * (6 + 2 * s) + 2 + s) :
 Calls Tryz.prog 25 #[.agg #[i64 t, i64 s, i64 g, i64 l, i64 r, i64 k, .slice PA pn pc, .slice LA ln lc], i64 v] w fun e w' => ∃ x, e = .returned (ptr x) ∧ Nw (snO b s.toNat x ⟨W, L, r, [], 0, false, false⟩) w w' := by
 have hm := mul_bd 1000 22 h0 h1 (show 0 ≤ 6 + 2 * s by omega) (by omega)
 have HC := hid (fun w' => plan_Counter t s g l r k PA pn pc LA ln lc v w' hs0 hs1 h0 h1)
 rw [← hb] at HC
 have HSN := hid (fun w' => snO_New b s.toNat r w' W L (by omega) (by omega))
 rw [Int.toNat_of_nonneg (by omega)] at HSN
 clear hb hm
 go_enter Tryz.func25, Tryz.ntmps25
 have hk0 : Keep0 w (w.alloc (.cells #[i64 t, i64 s, i64 g, i64 l, i64 r, i64 k, .slice PA pn pc, .slice LA ln lc] 24)) := (Keep.refl _ _).alloc _
 have hb0 : Blk (w.alloc (.cells #[i64 t, i64 s, i64 g, i64 l, i64 r, i64 k, .slice PA pn pc, .slice LA ln lc] 24)) w.heap.size 24 [i64 t, i64 s, i64 g, i64 l, i64 r, i64 k, .slice PA pn pc, .slice LA ln lc] := Blk.made rfl rfl
 have q0 := hb0.k8
 go_upto_region 1 with fail
 have HB := hid hb0
 have HK := hid hk0
 clear hb0 hk0 q0
 generalize w.alloc (.cells #[i64 t, i64 s, i64 g, i64 l, i64 r, i64 k, .slice PA pn pc, .slice LA ln lc] 24) = w1 at *
 apply wp_region_free (WI := MK 7 8 (fun y => snO b s.toNat y ⟨W, L, r, [], 0, false, false⟩) w1) (by kernel_rfl) (by kernel_rfl)
 case hob =>
  iterate 2
   apply ObligF.fixed
   case h =>
    intro S gh w1 hwi hSi hd hcl
    apply StepOk.intro
    intro K hK
    have qb := (hwi.1.blk HB.out (fun h => h)).k8
    go_simp
    apply hK
    · rfl
    · conv => (lhs; whnf)
    · exact hwi.fixed (by decide)
   simp only [put_lit, put_none]
   try dsimp only [List.set_cons_succ, List.set_cons_zero]
  apply ObligF.fixed
  case h =>
   intro S gh w1 hwi hSi hd hcl
   apply StepOk.intro
   intro K hK
   go_simp
   refine (HC.out _).mono ?_
   rintro e w2 ⟨rfl, hk⟩
   apply hK
   · rfl
   · conv => (lhs; whnf)
   · exact (hwi.keep hk).fixed (by decide)
  simp only [put_lit, put_none]
  try dsimp only [List.set_cons_succ, List.set_cons_zero]
  iterate 4
   apply ObligF.fixed
   case h =>
    intro S gh w1 hwi hSi hd hcl
    apply StepOk.intro
    intro K hK
    have qb := (hwi.1.blk HB.out (fun h => h)).k8
    go_simp
    apply hK
    · rfl
    · conv => (lhs; whnf)
    · exact hwi.fixed (by decide)
   simp only [put_lit, put_none]
   try dsimp only [List.set_cons_succ, List.set_cons_zero]
  apply ObligF.free
  case h =>
   intro S gh w1 hwi hSi hd hcl
   apply StepG.intro
   intro K hK
   have qb := (hwi.1.blk HB.out (fun h => h)).k8
   go_simp
   refine Calls.mono (HSN.out _) ?_
   rintro e w2 ⟨yn, rfl, hn⟩
   apply hK
   · rfl
   · exact hwi.made (by decide) yn hn
  simp only [put_lit, put_none]
  try dsimp only [List.set_cons_succ, List.set_cons_zero]
  apply ObligF.free
  case h =>
   intro S gh w1 hwi hSi hd hcl
   apply StepG.intro
   intro K hK
   have h9 := hd ⟨7, .data⟩ (by simp) rfl
   go_simp
   apply hK
   · rfl
   · exact hwi.hand (by decide) h9
  simp only [put_lit, put_none]
  try dsimp only [List.set_cons_succ, List.set_cons_zero]
  exact ObligF.nil
 case h0 =>
  exact MK.start (Keep.refl _ _).drew
 case hend =>
  intro S gh wx hwi hall
  obtain ⟨y, e1, hn⟩ := hwi.2.2 (hall 8 (by decide))
  clear hwi hall
  have HN := hid hn
  clear hn
  rw [e1]
  go_wp2_with fail
  go_ret
  exact ⟨y, rfl, HN.out.before HK.out⟩
theorem usage_Peek (t s g l r k : Int) (PA : Option Addr) (pn pc : Nat) (LA : Option Addr) (ln lc : Nat) (v : Int) (b : Nat) (w : World) (W : List Int) (L : List Acc) (hs0 : 1 ≤ s) (hs1 : s ≤ 8) (h0 : 0 ≤ v) (h1 : v ≤ 1000) (hb : (b : Int) = v * (6 + 2 * s) + 2 + s) :
 Calls Tryz.prog 34 #[.agg #[i64 t, i64 s, i64 g, i64 l, i64 r, i64 k, .slice PA pn pc, .slice LA ln lc], i64 v] w fun e w' => ∃ x, e = .returned (ptr x) ∧ Nw (pkO b x ⟨W, L, 0, [], 0, false, false⟩) w w' := by
 have HC := hid (fun w' => plan_Counter t s g l r k PA pn pc LA ln lc v w' hs0 hs1 h0 h1)
 rw [← hb] at HC
 have HSN := hid (fun w' => pkO_New b w' W L)
 clear hb
 go_enter Tryz.func34, Tryz.ntmps34
 have HK0 := hid (show Keep0 w (w.alloc (.cells #[i64 t, i64 s, i64 g, i64 l, i64 r, i64 k, .slice PA pn pc, .slice LA ln lc] 24)) from (Keep.refl _ _).alloc _)
 go_wp2_with fail
 refine (HC.out _).mono ?_
 rintro e w1 ⟨rfl, hk⟩
 have HK1 : Hid (Keep0 w w1) := hid (Keep0.step HK0.out hk)
 clear hk HK0
 go_wp2_with fail
 refine (HSN.out _).mono ?_
 rintro e w2 ⟨x, rfl, R, h1, h2, h3⟩
 have HN := hid (show Nw (pkO b x ⟨W, L, 0, [], 0, false, false⟩) w w2 from ⟨R, h1, Keep0.step HK1.out h2, fun k hk => Nat.le_trans HK1.out.size (h3 k hk)⟩)
 clear h1 h2 h3
 go_wp2_with fail
 go_ret
 exact ⟨x, rfl, HN.out⟩
theorem play14 : ∃ T : S12, T.W = fw14 ∧ ∀ (m B z : Nat) (R : Nat → Prop) (w : World), ((refO B m (freshW 2 3 4 [20, 10, 8, 5]) []).star (r12O p14 z (start12 p14 (freshW 2 3 4 [20, 10, 8, 5]) []))).At R w →
 Calls Tryz.prog 39 #[ptr m, ptr z, .slice none 0 0, i64 300] w fun e w' => e = .returned (.tuple #[i64 37, .bool true]) ∧ Tr ((refO B m fw14 T.L).star (r12O p14 z T)) R w w' := by
 refine ⟨_, head14_a.1, fun m B z R w h => ?_⟩
 have hp := r12_Play (p := p14) (X := 20) p14_ok [] none 0 0 0 300 (by decide) (by decide) h (I12.start p14_ok wok14) (by decide) (by decide) (fun h => absurd h (by decide)) (fun i h => absurd h (by simp)) (fun q hq => by cases hq)
 refine hp.mono ?_
 rintro e w' ⟨rfl, ht, _⟩
 have e1 : p14.q + 2 * p14.K = 46 := by decide
 rw [e1] at ht ⊢
 refine ⟨by rw [head14_a.2]; rfl, ?_⟩
 rw [head14_a.1] at ht
 exact ht
theorem count14 : ∃ (T : SN) (L : List Acc), (T.n = 4 ∧ T.ex = true) ∧ L.length ≤ 50 ∧ ∀ (m B x : Nat) (R : Nat → Prop) (w : World), ((memO B m fw14 []).star (snO 14 2 x ⟨fw14, [], 2, [], 0, false, false⟩)).At R w →
 Calls Tryz.prog 28 #[ptr m, .iface 57 (ptr x), .slice none 0 0, i64 50] w fun e w' => e = .returned (.tuple #[i64 8, .bool true]) ∧ Tr ((memO B m fw14 L).star (snO 14 2 x T)) R w w' := by
 refine ⟨(playF (nStp 14 2) nPk 46 [] 50 0 (⟨fw14, [], 2, [], 0, false, false⟩ : SN)).1, (playF (nStp 14 2) nPk 46 [] 50 0 (⟨fw14, [], 2, [], 0, false, false⟩ : SN)).1.L, head14_b.2.2.2, by rw [head14_b.2.2.1]; decide, fun m B x R w h => ?_⟩
 have hp := snO_Play (b := 14) (s := 2) (⟨fw14, [], 2, [], 0, false, false⟩ : SN) [] none 0 0 0 50 (by decide) (by decide) (by decide) (by decide) (by decide) (fun h => absurd h (by decide)) (fun i h => absurd h (by simp)) h (NInv.start (by decide) (by decide) (by decide) (by decide))
 refine hp.mono ?_
 rintro e w' ⟨rfl, ht, _⟩
 have ht : Tr ((memO B m (playF (nStp 14 2) nPk 46 [] 50 0 (⟨fw14, [], 2, [], 0, false, false⟩ : SN)).1.W (playF (nStp 14 2) nPk 46 [] 50 0 (⟨fw14, [], 2, [], 0, false, false⟩ : SN)).1.L).star (snO 14 2 x (playF (nStp 14 2) nPk 46 [] 50 0 (⟨fw14, [], 2, [], 0, false, false⟩ : SN)).1)) R w w' := ht
 rw [head14_b.2.1] at ht
 exact ⟨congrArg (fun u : Nat × Bool => Ending.returned (.tuple #[i64 u.1, .bool u.2])) head14_b.1, ht⟩
theorem peek14 (L0 : List Acc) (hL0 : L0.length ≤ 50) : ∃ (T : SN) (L : List Acc), (T.n = 4 ∧ T.ex = false) ∧ (L = L) ∧ ∀ (m B x : Nat) (R : Nat → Prop) (w : World), ((memO B m fw14 L0).star (pkO 14 x ⟨fw14, L0, 0, [], 0, false, false⟩)).At R w →
 Calls Tryz.prog 28 #[ptr m, .iface 57 (ptr x), .slice none 0 0, i64 50] w fun e w' => e = .returned (.tuple #[i64 1, .bool true]) ∧ Tr ((memO B m fw14 L).star (pkO 14 x T)) R w w' := by
 refine ⟨(playF (gStp 14) nPk 46 [] 50 0 (⟨fw14, L0, 0, [], 0, false, false⟩ : SN)).1, (playF (gStp 14) nPk 46 [] 50 0 (⟨fw14, L0, 0, [], 0, false, false⟩ : SN)).1.L, (head14_c L0).2.2, rfl, fun m B x R w h => ?_⟩
 have hp := pkO_Play (b := 14) (⟨fw14, L0, 0, [], 0, false, false⟩ : SN) [] none 0 0 0 50 (by decide) (by show L0.length ≤ _; omega) (by decide) (by decide) (by show fw14.length ≤ 1000000; decide) (fun h => absurd h (by decide)) (fun i h => absurd h (by simp)) h ⟨by show 14 < fw14.length; decide, fun _ => ⟨rfl, rfl⟩⟩
 refine hp.mono ?_
 rintro e w' ⟨rfl, ht, _⟩
 have ht : Tr ((memO B m (playF (gStp 14) nPk 46 [] 50 0 (⟨fw14, L0, 0, [], 0, false, false⟩ : SN)).1.W (playF (gStp 14) nPk 46 [] 50 0 (⟨fw14, L0, 0, [], 0, false, false⟩ : SN)).1.L).star (pkO 14 x (playF (gStp 14) nPk 46 [] 50 0 (⟨fw14, L0, 0, [], 0, false, false⟩ : SN)).1)) R w w' := ht
 rw [(head14_c L0).2.1] at ht
 exact ⟨congrArg (fun u : Nat × Bool => Ending.returned (.tuple #[i64 u.1, .bool u.2])) (head14_c L0).1, ht⟩
set_option maxHeartbeats 8000000 in
theorem law14_head (w : World) : Calls Tryz.prog 7 #[] w (Ret (.bool true) w) := by
 obtain ⟨T, _, hplay⟩ := play14
 obtain ⟨Tc, Lc, htc, hlc, hcount⟩ := count14
 obtain ⟨Td, Ld, htd, _, hpeek⟩ := peek14 Lc hlc
 have HTC := hid htc
 have HTD := hid htd
 clear htc htd hlc
 go_enter Tryz.func7, Tryz.ntmps7
 go_wp2_with fail
 refine Calls.mono (St.newx (q := fun x : Nat × Nat => Ass.star (intsO x.1 [-1, 0, 1, 0]) (intsO x.2 [20, 10, 8, 5])) (show St w [] _ from St.nil (Keep.refl _ _)) (base_Nw _)) ?_
 rintro e w1 ⟨x, rfl, hs⟩
 have HS1 := hid (St.part hs)
 clear hs
 go_wp2_with fail
 obtain ⟨w2, hw2⟩ : ∃ v, v = w1.alloc (.cells #[i64 2, i64 2, i64 4, i64 4, i64 2, i64 3, .slice (some ⟨x.1, 0, none⟩) 4 4, .slice (some ⟨x.2, 0, none⟩) 4 4] 24) := ⟨_, rfl⟩
 rw [← hw2]
 obtain ⟨cb, hcb⟩ : ∃ v, v = w1.heap.size := ⟨_, rfl⟩
 rw [← hcb]
 have hs := St.nw HS1.out (Nw.blk (w' := w2) (b := cb) (T := 24) (cs := [i64 2, i64 2, i64 4, i64 4, i64 2, i64 3, .slice (some ⟨x.1, 0, none⟩) 4 4, .slice (some ⟨x.2, 0, none⟩) 4 4]) (by rw [hw2]; exact Blk.made hcb rfl) (by rw [hw2]; exact (Keep.refl _ _).alloc _) (by omega))
 clear hw2 hcb HS1
 have HS := hid hs
 clear hs
 obtain ⟨_, ⟨hb, _⟩, _⟩ := St.get (show St w [Ass.blk cb 24 [i64 2, i64 2, i64 4, i64 4, i64 2, i64 3, .slice (some ⟨x.1, 0, none⟩) 4 4, .slice (some ⟨x.2, 0, none⟩) 4 4], intsO x.1 [-1, 0, 1, 0], intsO x.2 [20, 10, 8, 5]] w2 from (show St w [Ass.blk cb 24 [i64 2, i64 2, i64 4, i64 4, i64 2, i64 3, .slice (some ⟨x.1, 0, none⟩) 4 4, .slice (some ⟨x.2, 0, none⟩) 4 4], intsO x.1 [-1, 0, 1, 0], intsO x.2 [20, 10, 8, 5]] w2 from by repeat (with_reducible first | exact HS.out | apply St.alloc | apply St.drewN | apply St.drew)))
 have qb := hb.k8
 clear hb
 have hcl := St.cells (show St w [intsO x.2 [20, 10, 8, 5], Ass.blk cb 24 [i64 2, i64 2, i64 4, i64 4, i64 2, i64 3, .slice (some ⟨x.1, 0, none⟩) 4 4, .slice (some ⟨x.2, 0, none⟩) 4 4], intsO x.1 [-1, 0, 1, 0]] w2 from (St.pick (show St w [Ass.blk cb 24 [i64 2, i64 2, i64 4, i64 4, i64 2, i64 3, .slice (some ⟨x.1, 0, none⟩) 4 4, .slice (some ⟨x.2, 0, none⟩) 4 4], intsO x.1 [-1, 0, 1, 0], intsO x.2 [20, 10, 8, 5]] w2 from by repeat (with_reducible first | exact HS.out | apply St.alloc | apply St.drewN | apply St.drew)) 2 (by simp)))
 refine Calls.mono (St.newx (q := fun (y : Nat × Nat) => refO y.2 y.1 (freshW 2 3 4 [20, 10, 8, 5]) []) (show St w [Ass.blk cb 24 [i64 2, i64 2, i64 4, i64 4, i64 2, i64 3, .slice (some ⟨x.1, 0, none⟩) 4 4, .slice (some ⟨x.2, 0, none⟩) 4 4], intsO x.1 [-1, 0, 1, 0], intsO x.2 [20, 10, 8, 5]] _ from (show St w [Ass.blk cb 24 [i64 2, i64 2, i64 4, i64 4, i64 2, i64 3, .slice (some ⟨x.1, 0, none⟩) 4 4, .slice (some ⟨x.2, 0, none⟩) 4 4], intsO x.1 [-1, 0, 1, 0], intsO x.2 [20, 10, 8, 5]] _ from by repeat (with_reducible first | exact HS.out | apply St.alloc | apply St.drewN | apply St.drew))) (show Calls Tryz.prog 38 #[.agg #[i64 2, i64 2, i64 4, i64 4, i64 2, i64 3, .slice (some ⟨x.1, 0, none⟩) 4 4, .slice (some ⟨x.2, 0, none⟩) 4 4]] w2 _ from refO_Fresh w2 x.2 0 2 2 4 4 2 3 (some ⟨x.1, 0, none⟩) 4 4 4 4 ([20, 10, 8, 5] : List Int) (by decide) (by decide) (by decide) (by decide) (by decide) (by decide) hcl (by have := World.block_lt_of_cell? _ _ (hcl 0 (by decide)); simpa using this))) ?_
 rintro e w3 ⟨y, rfl, hs⟩
 clear HS
 have HS := hid (show St w [refO y.2 y.1 (freshW 2 3 4 [20, 10, 8, 5]) [], Ass.blk cb 24 [i64 2, i64 2, i64 4, i64 4, i64 2, i64 3, .slice (some ⟨x.1, 0, none⟩) 4 4, .slice (some ⟨x.2, 0, none⟩) 4 4], intsO x.1 [-1, 0, 1, 0], intsO x.2 [20, 10, 8, 5]] w3 from hs)
 clear hs
 clear hcl qb
 obtain ⟨_, ⟨hb, _⟩, _⟩ := St.get (show St w [Ass.blk cb 24 [i64 2, i64 2, i64 4, i64 4, i64 2, i64 3, .slice (some ⟨x.1, 0, none⟩) 4 4, .slice (some ⟨x.2, 0, none⟩) 4 4], refO y.2 y.1 (freshW 2 3 4 [20, 10, 8, 5]) [], intsO x.1 [-1, 0, 1, 0], intsO x.2 [20, 10, 8, 5]] w3 from (St.pick (show St w [refO y.2 y.1 (freshW 2 3 4 [20, 10, 8, 5]) [], Ass.blk cb 24 [i64 2, i64 2, i64 4, i64 4, i64 2, i64 3, .slice (some ⟨x.1, 0, none⟩) 4 4, .slice (some ⟨x.2, 0, none⟩) 4 4], intsO x.1 [-1, 0, 1, 0], intsO x.2 [20, 10, 8, 5]] w3 from by repeat (with_reducible first | exact HS.out | apply St.alloc | apply St.drewN | apply St.drew)) 1 (by simp)))
 have qb := hb.k8
 clear hb
 have hcl := St.cells (show St w [intsO x.2 [20, 10, 8, 5], refO y.2 y.1 (freshW 2 3 4 [20, 10, 8, 5]) [], Ass.blk cb 24 [i64 2, i64 2, i64 4, i64 4, i64 2, i64 3, .slice (some ⟨x.1, 0, none⟩) 4 4, .slice (some ⟨x.2, 0, none⟩) 4 4], intsO x.1 [-1, 0, 1, 0]] w3 from (St.pick (show St w [refO y.2 y.1 (freshW 2 3 4 [20, 10, 8, 5]) [], Ass.blk cb 24 [i64 2, i64 2, i64 4, i64 4, i64 2, i64 3, .slice (some ⟨x.1, 0, none⟩) 4 4, .slice (some ⟨x.2, 0, none⟩) 4 4], intsO x.1 [-1, 0, 1, 0], intsO x.2 [20, 10, 8, 5]] w3 from by repeat (with_reducible first | exact HS.out | apply St.alloc | apply St.drewN | apply St.drew)) 3 (by simp)))
 have hcp := St.cells (show St w [intsO x.1 [-1, 0, 1, 0], refO y.2 y.1 (freshW 2 3 4 [20, 10, 8, 5]) [], Ass.blk cb 24 [i64 2, i64 2, i64 4, i64 4, i64 2, i64 3, .slice (some ⟨x.1, 0, none⟩) 4 4, .slice (some ⟨x.2, 0, none⟩) 4 4], intsO x.2 [20, 10, 8, 5]] w3 from (St.pick (show St w [refO y.2 y.1 (freshW 2 3 4 [20, 10, 8, 5]) [], Ass.blk cb 24 [i64 2, i64 2, i64 4, i64 4, i64 2, i64 3, .slice (some ⟨x.1, 0, none⟩) 4 4, .slice (some ⟨x.2, 0, none⟩) 4 4], intsO x.1 [-1, 0, 1, 0], intsO x.2 [20, 10, 8, 5]] w3 from by repeat (with_reducible first | exact HS.out | apply St.alloc | apply St.drewN | apply St.drew)) 2 (by simp)))
 go_wp2_with fail
 refine Calls.mono (St.newx (q := fun z => r12O p14 z (start12 p14 (freshW 2 3 4 [20, 10, 8, 5]) [])) (show St w [refO y.2 y.1 (freshW 2 3 4 [20, 10, 8, 5]) [], Ass.blk cb 24 [i64 2, i64 2, i64 4, i64 4, i64 2, i64 3, .slice (some ⟨x.1, 0, none⟩) 4 4, .slice (some ⟨x.2, 0, none⟩) 4 4], intsO x.1 [-1, 0, 1, 0], intsO x.2 [20, 10, 8, 5]] _ from (show St w [refO y.2 y.1 (freshW 2 3 4 [20, 10, 8, 5]) [], Ass.blk cb 24 [i64 2, i64 2, i64 4, i64 4, i64 2, i64 3, .slice (some ⟨x.1, 0, none⟩) 4 4, .slice (some ⟨x.2, 0, none⟩) 4 4], intsO x.1 [-1, 0, 1, 0], intsO x.2 [20, 10, 8, 5]] _ from by repeat (with_reducible first | exact HS.out | apply St.alloc | apply St.drewN | apply St.drew))) (show Calls Tryz.prog 11 #[.agg #[i64 2, i64 2, i64 4, i64 4, i64 2, i64 3, .slice (some ⟨x.1, 0, none⟩) 4 4, .slice (some ⟨x.2, 0, none⟩) 4 4], i64 2, i64 4, i64 0] w3 _ from r12_New (p := p14) p14_ok par14.ok path14 x.1 0 4 x.2 0 4 w3 hcp hcl (freshW 2 3 4 [20, 10, 8, 5]) [])) ?_
 rintro e w4 ⟨z, rfl, hs⟩
 clear HS
 have HS := hid (show St w [r12O p14 z (start12 p14 (freshW 2 3 4 [20, 10, 8, 5]) []), refO y.2 y.1 (freshW 2 3 4 [20, 10, 8, 5]) [], Ass.blk cb 24 [i64 2, i64 2, i64 4, i64 4, i64 2, i64 3, .slice (some ⟨x.1, 0, none⟩) 4 4, .slice (some ⟨x.2, 0, none⟩) 4 4], intsO x.1 [-1, 0, 1, 0], intsO x.2 [20, 10, 8, 5]] w4 from hs)
 clear hs
 clear hcl hcp qb
 obtain ⟨_, ⟨hb, _⟩, _⟩ := St.get (show St w [Ass.blk cb 24 [i64 2, i64 2, i64 4, i64 4, i64 2, i64 3, .slice (some ⟨x.1, 0, none⟩) 4 4, .slice (some ⟨x.2, 0, none⟩) 4 4], r12O p14 z (start12 p14 (freshW 2 3 4 [20, 10, 8, 5]) []), refO y.2 y.1 (freshW 2 3 4 [20, 10, 8, 5]) [], intsO x.1 [-1, 0, 1, 0], intsO x.2 [20, 10, 8, 5]] w4 from (St.pick (show St w [r12O p14 z (start12 p14 (freshW 2 3 4 [20, 10, 8, 5]) []), refO y.2 y.1 (freshW 2 3 4 [20, 10, 8, 5]) [], Ass.blk cb 24 [i64 2, i64 2, i64 4, i64 4, i64 2, i64 3, .slice (some ⟨x.1, 0, none⟩) 4 4, .slice (some ⟨x.2, 0, none⟩) 4 4], intsO x.1 [-1, 0, 1, 0], intsO x.2 [20, 10, 8, 5]] w4 from by repeat (with_reducible first | exact HS.out | apply St.alloc | apply St.drewN | apply St.drew)) 2 (by simp)))
 have qb := hb.k8
 clear hb
 go_wp2_with fail
 refine Calls.mono (St.call (q := Ass.star (refO y.2 y.1 fw14 T.L) (r12O p14 z T)) (St.pair (show St w [refO y.2 y.1 (freshW 2 3 4 [20, 10, 8, 5]) [], r12O p14 z (start12 p14 (freshW 2 3 4 [20, 10, 8, 5]) []), Ass.blk cb 24 [i64 2, i64 2, i64 4, i64 4, i64 2, i64 3, .slice (some ⟨x.1, 0, none⟩) 4 4, .slice (some ⟨x.2, 0, none⟩) 4 4], intsO x.1 [-1, 0, 1, 0], intsO x.2 [20, 10, 8, 5]] _ from (St.pick (show St w [r12O p14 z (start12 p14 (freshW 2 3 4 [20, 10, 8, 5]) []), refO y.2 y.1 (freshW 2 3 4 [20, 10, 8, 5]) [], Ass.blk cb 24 [i64 2, i64 2, i64 4, i64 4, i64 2, i64 3, .slice (some ⟨x.1, 0, none⟩) 4 4, .slice (some ⟨x.2, 0, none⟩) 4 4], intsO x.1 [-1, 0, 1, 0], intsO x.2 [20, 10, 8, 5]] _ from by repeat (with_reducible first | exact HS.out | apply St.alloc | apply St.drewN | apply St.drew)) 1 (by simp)))) (fun Rq hr hz => hplay y.1 y.2 z _ _ hr)) ?_
 rintro e w5 ⟨rfl, hs⟩
 clear HS
 have HS := hid (show St w [refO y.2 y.1 fw14 T.L, r12O p14 z T, Ass.blk cb 24 [i64 2, i64 2, i64 4, i64 4, i64 2, i64 3, .slice (some ⟨x.1, 0, none⟩) 4 4, .slice (some ⟨x.2, 0, none⟩) 4 4], intsO x.1 [-1, 0, 1, 0], intsO x.2 [20, 10, 8, 5]] w5 from St.part hs)
 clear hs
 have hs := St.drop (show St w [r12O p14 z T, refO y.2 y.1 fw14 T.L, Ass.blk cb 24 [i64 2, i64 2, i64 4, i64 4, i64 2, i64 3, .slice (some ⟨x.1, 0, none⟩) 4 4, .slice (some ⟨x.2, 0, none⟩) 4 4], intsO x.1 [-1, 0, 1, 0], intsO x.2 [20, 10, 8, 5]] w5 from (St.pick (show St w [refO y.2 y.1 fw14 T.L, r12O p14 z T, Ass.blk cb 24 [i64 2, i64 2, i64 4, i64 4, i64 2, i64 3, .slice (some ⟨x.1, 0, none⟩) 4 4, .slice (some ⟨x.2, 0, none⟩) 4 4], intsO x.1 [-1, 0, 1, 0], intsO x.2 [20, 10, 8, 5]] w5 from by repeat (with_reducible first | exact HS.out | apply St.alloc | apply St.drewN | apply St.drew)) 1 (by simp)))
 clear HS
 have HS := hid hs
 clear hs
 clear qb
 obtain ⟨wb, wc, lv0, hmb, hcap, hs⟩ := St.words (show St w [refO y.2 y.1 fw14 T.L, Ass.blk cb 24 [i64 2, i64 2, i64 4, i64 4, i64 2, i64 3, .slice (some ⟨x.1, 0, none⟩) 4 4, .slice (some ⟨x.2, 0, none⟩) 4 4], intsO x.1 [-1, 0, 1, 0], intsO x.2 [20, 10, 8, 5]] w5 from (show St w [refO y.2 y.1 fw14 T.L, Ass.blk cb 24 [i64 2, i64 2, i64 4, i64 4, i64 2, i64 3, .slice (some ⟨x.1, 0, none⟩) 4 4, .slice (some ⟨x.2, 0, none⟩) 4 4], intsO x.1 [-1, 0, 1, 0], intsO x.2 [20, 10, 8, 5]] w5 from by repeat (with_reducible first | exact HS.out | apply St.alloc | apply St.drewN | apply St.drew))) (by decide)
 have HS := hid hs
 have HMB := hid hmb
 have qm := hmb.k2
 clear hs hmb
 obtain ⟨_, ⟨hb, _⟩, _⟩ := St.get (show St w [Ass.blk cb 24 [i64 2, i64 2, i64 4, i64 4, i64 2, i64 3, .slice (some ⟨x.1, 0, none⟩) 4 4, .slice (some ⟨x.2, 0, none⟩) 4 4], intsO wb fw14, intsO x.1 [-1, 0, 1, 0], intsO x.2 [20, 10, 8, 5]] w5 from (St.pick (show St w [intsO wb fw14, Ass.blk cb 24 [i64 2, i64 2, i64 4, i64 4, i64 2, i64 3, .slice (some ⟨x.1, 0, none⟩) 4 4, .slice (some ⟨x.2, 0, none⟩) 4 4], intsO x.1 [-1, 0, 1, 0], intsO x.2 [20, 10, 8, 5]] w5 from by repeat (with_reducible first | exact HS.out | apply St.alloc | apply St.drewN | apply St.drew)) 1 (by simp)))
 have qb := hb.k8
 clear hb
 have hcw := St.cells (show St w [intsO wb fw14, Ass.blk cb 24 [i64 2, i64 2, i64 4, i64 4, i64 2, i64 3, .slice (some ⟨x.1, 0, none⟩) 4 4, .slice (some ⟨x.2, 0, none⟩) 4 4], intsO x.1 [-1, 0, 1, 0], intsO x.2 [20, 10, 8, 5]] w5 from (show St w [intsO wb fw14, Ass.blk cb 24 [i64 2, i64 2, i64 4, i64 4, i64 2, i64 3, .slice (some ⟨x.1, 0, none⟩) 4 4, .slice (some ⟨x.2, 0, none⟩) 4 4], intsO x.1 [-1, 0, 1, 0], intsO x.2 [20, 10, 8, 5]] w5 from by repeat (with_reducible first | exact HS.out | apply St.alloc | apply St.drewN | apply St.drew)))
 go_wp2_with fail
 refine Calls.mono (show Calls Tryz.prog 20 #[.agg #[i64 2, i64 2, i64 4, i64 4, i64 2, i64 3, .slice (some ⟨x.1, 0, none⟩) 4 4, .slice (some ⟨x.2, 0, none⟩) 4 4], .slice (some ⟨wb, 0, none⟩) 46 wc, i64 0] w5 (Ret (.tuple #[i64 2, i64 4, .bool true]) w5) from by have h : Calls Tryz.prog 20 #[.agg #[i64 2, i64 2, i64 4, i64 4, i64 2, i64 3, .slice (some ⟨x.1, 0, none⟩) 4 4, .slice (some ⟨x.2, 0, none⟩) 4 4], .slice (some ⟨wb, 0, none⟩) 46 wc, i64 0] w5 (Ret (.tuple #[i64 (lvV 4 fw14 40 : Nat), i64 (lvN 4 fw14 40), .bool (lvB 4 fw14 40)]) w5) := usage_Live 2 4 4 2 2 3 ([-1, 0, 1, 0] : List Int) x.1 0 4 (some ⟨x.2, 0, none⟩) 4 4 fw14 wb 0 wc 40 0 w5 (by decide) (by decide) (by decide) (by decide) (by decide) (by decide) (by decide) (by decide) hcw; rw [use14.2.1, use14.2.2.1, use14.1] at h; exact h) ?_
 rintro e w6 ⟨rfl, hk⟩
 have hs := St.keep (show St w [intsO wb fw14, Ass.blk cb 24 [i64 2, i64 2, i64 4, i64 4, i64 2, i64 3, .slice (some ⟨x.1, 0, none⟩) 4 4, .slice (some ⟨x.2, 0, none⟩) 4 4], intsO x.1 [-1, 0, 1, 0], intsO x.2 [20, 10, 8, 5]] _ from by repeat (with_reducible first | exact HS.out | apply St.alloc | apply St.drewN | apply St.drew)) hk
 clear HS
 have HS := hid (show St w [intsO wb fw14, Ass.blk cb 24 [i64 2, i64 2, i64 4, i64 4, i64 2, i64 3, .slice (some ⟨x.1, 0, none⟩) 4 4, .slice (some ⟨x.2, 0, none⟩) 4 4], intsO x.1 [-1, 0, 1, 0], intsO x.2 [20, 10, 8, 5]] w6 from hs)
 clear hs hk
 clear qb hcw qm
 obtain ⟨_, ⟨hb, _⟩, _⟩ := St.get (show St w [Ass.blk cb 24 [i64 2, i64 2, i64 4, i64 4, i64 2, i64 3, .slice (some ⟨x.1, 0, none⟩) 4 4, .slice (some ⟨x.2, 0, none⟩) 4 4], intsO wb fw14, intsO x.1 [-1, 0, 1, 0], intsO x.2 [20, 10, 8, 5]] w6 from (St.pick (show St w [intsO wb fw14, Ass.blk cb 24 [i64 2, i64 2, i64 4, i64 4, i64 2, i64 3, .slice (some ⟨x.1, 0, none⟩) 4 4, .slice (some ⟨x.2, 0, none⟩) 4 4], intsO x.1 [-1, 0, 1, 0], intsO x.2 [20, 10, 8, 5]] w6 from by repeat (with_reducible first | exact HS.out | apply St.alloc | apply St.drewN | apply St.drew)) 1 (by simp)))
 have qb := hb.k8
 clear hb
 have hcw := St.cells (show St w [intsO wb fw14, Ass.blk cb 24 [i64 2, i64 2, i64 4, i64 4, i64 2, i64 3, .slice (some ⟨x.1, 0, none⟩) 4 4, .slice (some ⟨x.2, 0, none⟩) 4 4], intsO x.1 [-1, 0, 1, 0], intsO x.2 [20, 10, 8, 5]] w6 from (show St w [intsO wb fw14, Ass.blk cb 24 [i64 2, i64 2, i64 4, i64 4, i64 2, i64 3, .slice (some ⟨x.1, 0, none⟩) 4 4, .slice (some ⟨x.2, 0, none⟩) 4 4], intsO x.1 [-1, 0, 1, 0], intsO x.2 [20, 10, 8, 5]] w6 from by repeat (with_reducible first | exact HS.out | apply St.alloc | apply St.drewN | apply St.drew)))
 go_wp2_with fail
 refine Calls.mono (show Calls Tryz.prog 20 #[.agg #[i64 2, i64 2, i64 4, i64 4, i64 2, i64 3, .slice (some ⟨x.1, 0, none⟩) 4 4, .slice (some ⟨x.2, 0, none⟩) 4 4], .slice (some ⟨wb, 0, none⟩) 46 wc, i64 1] w6 (Ret (.tuple #[i64 0, i64 0, .bool false]) w6) from by have h : Calls Tryz.prog 20 #[.agg #[i64 2, i64 2, i64 4, i64 4, i64 2, i64 3, .slice (some ⟨x.1, 0, none⟩) 4 4, .slice (some ⟨x.2, 0, none⟩) 4 4], .slice (some ⟨wb, 0, none⟩) 46 wc, i64 1] w6 (Ret (.tuple #[i64 (lvV 4 fw14 42 : Nat), i64 (lvN 4 fw14 42), .bool (lvB 4 fw14 42)]) w6) := usage_Live 2 4 4 2 2 3 ([-1, 0, 1, 0] : List Int) x.1 0 4 (some ⟨x.2, 0, none⟩) 4 4 fw14 wb 0 wc 40 1 w6 (by decide) (by decide) (by decide) (by decide) (by decide) (by decide) (by decide) (by decide) hcw; rw [use14.2.2.2.2.1, use14.2.2.2.2.2.1, use14.2.2.2.1] at h; exact h) ?_
 rintro e w7 ⟨rfl, hk⟩
 have hs := St.keep (show St w [intsO wb fw14, Ass.blk cb 24 [i64 2, i64 2, i64 4, i64 4, i64 2, i64 3, .slice (some ⟨x.1, 0, none⟩) 4 4, .slice (some ⟨x.2, 0, none⟩) 4 4], intsO x.1 [-1, 0, 1, 0], intsO x.2 [20, 10, 8, 5]] _ from by repeat (with_reducible first | exact HS.out | apply St.alloc | apply St.drewN | apply St.drew)) hk
 clear HS
 have HS := hid (show St w [intsO wb fw14, Ass.blk cb 24 [i64 2, i64 2, i64 4, i64 4, i64 2, i64 3, .slice (some ⟨x.1, 0, none⟩) 4 4, .slice (some ⟨x.2, 0, none⟩) 4 4], intsO x.1 [-1, 0, 1, 0], intsO x.2 [20, 10, 8, 5]] w7 from hs)
 clear hs hk
 clear qb hcw
 have hcw := St.cells (show St w [intsO wb fw14, Ass.blk cb 24 [i64 2, i64 2, i64 4, i64 4, i64 2, i64 3, .slice (some ⟨x.1, 0, none⟩) 4 4, .slice (some ⟨x.2, 0, none⟩) 4 4], intsO x.1 [-1, 0, 1, 0], intsO x.2 [20, 10, 8, 5]] w7 from (show St w [intsO wb fw14, Ass.blk cb 24 [i64 2, i64 2, i64 4, i64 4, i64 2, i64 3, .slice (some ⟨x.1, 0, none⟩) 4 4, .slice (some ⟨x.2, 0, none⟩) 4 4], intsO x.1 [-1, 0, 1, 0], intsO x.2 [20, 10, 8, 5]] w7 from by repeat (with_reducible first | exact HS.out | apply St.alloc | apply St.drewN | apply St.drew)))
 go_wp2_with fail
 refine Calls.mono (St.newx (q := fun (a : Nat × Nat) => memO a.2 a.1 fw14 []) (show St w [intsO wb fw14, Ass.blk cb 24 [i64 2, i64 2, i64 4, i64 4, i64 2, i64 3, .slice (some ⟨x.1, 0, none⟩) 4 4, .slice (some ⟨x.2, 0, none⟩) 4 4], intsO x.1 [-1, 0, 1, 0], intsO x.2 [20, 10, 8, 5]] _ from (show St w [intsO wb fw14, Ass.blk cb 24 [i64 2, i64 2, i64 4, i64 4, i64 2, i64 3, .slice (some ⟨x.1, 0, none⟩) 4 4, .slice (some ⟨x.2, 0, none⟩) 4 4], intsO x.1 [-1, 0, 1, 0], intsO x.2 [20, 10, 8, 5]] _ from by repeat (with_reducible first | exact HS.out | apply St.alloc | apply St.drewN | apply St.drew))) (show Calls Tryz.prog 24 #[.slice (some ⟨wb, 0, none⟩) 46 wc] w7 _ from memO_Laid w7 wb wc fw14 hcw (by decide))) ?_
 rintro e w8 ⟨a, rfl, hs⟩
 clear HS
 have HS := hid (show St w [memO a.2 a.1 fw14 [], intsO wb fw14, Ass.blk cb 24 [i64 2, i64 2, i64 4, i64 4, i64 2, i64 3, .slice (some ⟨x.1, 0, none⟩) 4 4, .slice (some ⟨x.2, 0, none⟩) 4 4], intsO x.1 [-1, 0, 1, 0], intsO x.2 [20, 10, 8, 5]] w8 from hs)
 clear hs
 clear hcw
 obtain ⟨_, ⟨hb, _⟩, _⟩ := St.get (show St w [Ass.blk cb 24 [i64 2, i64 2, i64 4, i64 4, i64 2, i64 3, .slice (some ⟨x.1, 0, none⟩) 4 4, .slice (some ⟨x.2, 0, none⟩) 4 4], memO a.2 a.1 fw14 [], intsO wb fw14, intsO x.1 [-1, 0, 1, 0], intsO x.2 [20, 10, 8, 5]] w8 from (St.pick (show St w [memO a.2 a.1 fw14 [], intsO wb fw14, Ass.blk cb 24 [i64 2, i64 2, i64 4, i64 4, i64 2, i64 3, .slice (some ⟨x.1, 0, none⟩) 4 4, .slice (some ⟨x.2, 0, none⟩) 4 4], intsO x.1 [-1, 0, 1, 0], intsO x.2 [20, 10, 8, 5]] w8 from by repeat (with_reducible first | exact HS.out | apply St.alloc | apply St.drewN | apply St.drew)) 2 (by simp)))
 have qb := hb.k8
 clear hb
 go_wp2_with fail
 refine Calls.mono (St.newx (q := fun c => snO 14 2 c ⟨fw14, [], 2, [], 0, false, false⟩) (show St w [memO a.2 a.1 fw14 [], intsO wb fw14, Ass.blk cb 24 [i64 2, i64 2, i64 4, i64 4, i64 2, i64 3, .slice (some ⟨x.1, 0, none⟩) 4 4, .slice (some ⟨x.2, 0, none⟩) 4 4], intsO x.1 [-1, 0, 1, 0], intsO x.2 [20, 10, 8, 5]] _ from (show St w [memO a.2 a.1 fw14 [], intsO wb fw14, Ass.blk cb 24 [i64 2, i64 2, i64 4, i64 4, i64 2, i64 3, .slice (some ⟨x.1, 0, none⟩) 4 4, .slice (some ⟨x.2, 0, none⟩) 4 4], intsO x.1 [-1, 0, 1, 0], intsO x.2 [20, 10, 8, 5]] _ from by repeat (with_reducible first | exact HS.out | apply St.alloc | apply St.drewN | apply St.drew))) (usage_Count 2 2 4 4 2 3 (some ⟨x.1, 0, none⟩) 4 4 (some ⟨x.2, 0, none⟩) 4 4 1 14 _ fw14 [] (by decide) (by decide) (by decide) (by decide) (by decide))) ?_
 rintro e w9 ⟨c, rfl, hs⟩
 clear HS
 have HS := hid (show St w [snO 14 2 c ⟨fw14, [], 2, [], 0, false, false⟩, memO a.2 a.1 fw14 [], intsO wb fw14, Ass.blk cb 24 [i64 2, i64 2, i64 4, i64 4, i64 2, i64 3, .slice (some ⟨x.1, 0, none⟩) 4 4, .slice (some ⟨x.2, 0, none⟩) 4 4], intsO x.1 [-1, 0, 1, 0], intsO x.2 [20, 10, 8, 5]] w9 from hs)
 clear hs
 clear qb
 go_wp2_with fail
 refine Calls.mono (St.call (q := Ass.star (memO a.2 a.1 fw14 Lc) (snO 14 2 c Tc)) (St.pair (show St w [memO a.2 a.1 fw14 [], snO 14 2 c ⟨fw14, [], 2, [], 0, false, false⟩, intsO wb fw14, Ass.blk cb 24 [i64 2, i64 2, i64 4, i64 4, i64 2, i64 3, .slice (some ⟨x.1, 0, none⟩) 4 4, .slice (some ⟨x.2, 0, none⟩) 4 4], intsO x.1 [-1, 0, 1, 0], intsO x.2 [20, 10, 8, 5]] _ from (St.pick (show St w [snO 14 2 c ⟨fw14, [], 2, [], 0, false, false⟩, memO a.2 a.1 fw14 [], intsO wb fw14, Ass.blk cb 24 [i64 2, i64 2, i64 4, i64 4, i64 2, i64 3, .slice (some ⟨x.1, 0, none⟩) 4 4, .slice (some ⟨x.2, 0, none⟩) 4 4], intsO x.1 [-1, 0, 1, 0], intsO x.2 [20, 10, 8, 5]] _ from by repeat (with_reducible first | exact HS.out | apply St.alloc | apply St.drewN | apply St.drew)) 1 (by simp)))) (fun Rq hr hz => hcount a.1 a.2 c _ _ hr)) ?_
 rintro e w10 ⟨rfl, hs⟩
 clear HS
 have HS := hid (show St w [memO a.2 a.1 fw14 Lc, snO 14 2 c Tc, intsO wb fw14, Ass.blk cb 24 [i64 2, i64 2, i64 4, i64 4, i64 2, i64 3, .slice (some ⟨x.1, 0, none⟩) 4 4, .slice (some ⟨x.2, 0, none⟩) 4 4], intsO x.1 [-1, 0, 1, 0], intsO x.2 [20, 10, 8, 5]] w10 from St.part hs)
 clear hs
 obtain ⟨_, ⟨hb, _⟩, _⟩ := St.get (show St w [Ass.blk cb 24 [i64 2, i64 2, i64 4, i64 4, i64 2, i64 3, .slice (some ⟨x.1, 0, none⟩) 4 4, .slice (some ⟨x.2, 0, none⟩) 4 4], memO a.2 a.1 fw14 Lc, snO 14 2 c Tc, intsO wb fw14, intsO x.1 [-1, 0, 1, 0], intsO x.2 [20, 10, 8, 5]] w10 from (St.pick (show St w [memO a.2 a.1 fw14 Lc, snO 14 2 c Tc, intsO wb fw14, Ass.blk cb 24 [i64 2, i64 2, i64 4, i64 4, i64 2, i64 3, .slice (some ⟨x.1, 0, none⟩) 4 4, .slice (some ⟨x.2, 0, none⟩) 4 4], intsO x.1 [-1, 0, 1, 0], intsO x.2 [20, 10, 8, 5]] w10 from by repeat (with_reducible first | exact HS.out | apply St.alloc | apply St.drewN | apply St.drew)) 3 (by simp)))
 have qb := hb.k8
 clear hb
 go_wp2_with fail
 refine Calls.mono (St.newx (q := fun d => pkO 14 d ⟨fw14, Lc, 0, [], 0, false, false⟩) (show St w [memO a.2 a.1 fw14 Lc, snO 14 2 c Tc, intsO wb fw14, Ass.blk cb 24 [i64 2, i64 2, i64 4, i64 4, i64 2, i64 3, .slice (some ⟨x.1, 0, none⟩) 4 4, .slice (some ⟨x.2, 0, none⟩) 4 4], intsO x.1 [-1, 0, 1, 0], intsO x.2 [20, 10, 8, 5]] _ from (show St w [memO a.2 a.1 fw14 Lc, snO 14 2 c Tc, intsO wb fw14, Ass.blk cb 24 [i64 2, i64 2, i64 4, i64 4, i64 2, i64 3, .slice (some ⟨x.1, 0, none⟩) 4 4, .slice (some ⟨x.2, 0, none⟩) 4 4], intsO x.1 [-1, 0, 1, 0], intsO x.2 [20, 10, 8, 5]] _ from by repeat (with_reducible first | exact HS.out | apply St.alloc | apply St.drewN | apply St.drew))) (usage_Peek 2 2 4 4 2 3 (some ⟨x.1, 0, none⟩) 4 4 (some ⟨x.2, 0, none⟩) 4 4 1 14 _ fw14 Lc (by decide) (by decide) (by decide) (by decide) (by decide))) ?_
 rintro e w11 ⟨d, rfl, hs⟩
 clear HS
 have HS := hid (show St w [pkO 14 d ⟨fw14, Lc, 0, [], 0, false, false⟩, memO a.2 a.1 fw14 Lc, snO 14 2 c Tc, intsO wb fw14, Ass.blk cb 24 [i64 2, i64 2, i64 4, i64 4, i64 2, i64 3, .slice (some ⟨x.1, 0, none⟩) 4 4, .slice (some ⟨x.2, 0, none⟩) 4 4], intsO x.1 [-1, 0, 1, 0], intsO x.2 [20, 10, 8, 5]] w11 from hs)
 clear hs
 clear qb
 go_wp2_with fail
 refine Calls.mono (St.call (q := Ass.star (memO a.2 a.1 fw14 Ld) (pkO 14 d Td)) (St.pair (show St w [memO a.2 a.1 fw14 Lc, pkO 14 d ⟨fw14, Lc, 0, [], 0, false, false⟩, snO 14 2 c Tc, intsO wb fw14, Ass.blk cb 24 [i64 2, i64 2, i64 4, i64 4, i64 2, i64 3, .slice (some ⟨x.1, 0, none⟩) 4 4, .slice (some ⟨x.2, 0, none⟩) 4 4], intsO x.1 [-1, 0, 1, 0], intsO x.2 [20, 10, 8, 5]] _ from (St.pick (show St w [pkO 14 d ⟨fw14, Lc, 0, [], 0, false, false⟩, memO a.2 a.1 fw14 Lc, snO 14 2 c Tc, intsO wb fw14, Ass.blk cb 24 [i64 2, i64 2, i64 4, i64 4, i64 2, i64 3, .slice (some ⟨x.1, 0, none⟩) 4 4, .slice (some ⟨x.2, 0, none⟩) 4 4], intsO x.1 [-1, 0, 1, 0], intsO x.2 [20, 10, 8, 5]] _ from by repeat (with_reducible first | exact HS.out | apply St.alloc | apply St.drewN | apply St.drew)) 1 (by simp)))) (fun Rq hr hz => hpeek a.1 a.2 d _ _ hr)) ?_
 rintro e w12 ⟨rfl, hs⟩
 clear HS
 have HS := hid (show St w [memO a.2 a.1 fw14 Ld, pkO 14 d Td, snO 14 2 c Tc, intsO wb fw14, Ass.blk cb 24 [i64 2, i64 2, i64 4, i64 4, i64 2, i64 3, .slice (some ⟨x.1, 0, none⟩) 4 4, .slice (some ⟨x.2, 0, none⟩) 4 4], intsO x.1 [-1, 0, 1, 0], intsO x.2 [20, 10, 8, 5]] w12 from St.part hs)
 clear hs
 obtain ⟨_, ⟨hb, _⟩, _⟩ := St.get (show St w [Ass.blk cb 24 [i64 2, i64 2, i64 4, i64 4, i64 2, i64 3, .slice (some ⟨x.1, 0, none⟩) 4 4, .slice (some ⟨x.2, 0, none⟩) 4 4], memO a.2 a.1 fw14 Ld, pkO 14 d Td, snO 14 2 c Tc, intsO wb fw14, intsO x.1 [-1, 0, 1, 0], intsO x.2 [20, 10, 8, 5]] w12 from (St.pick (show St w [memO a.2 a.1 fw14 Ld, pkO 14 d Td, snO 14 2 c Tc, intsO wb fw14, Ass.blk cb 24 [i64 2, i64 2, i64 4, i64 4, i64 2, i64 3, .slice (some ⟨x.1, 0, none⟩) 4 4, .slice (some ⟨x.2, 0, none⟩) 4 4], intsO x.1 [-1, 0, 1, 0], intsO x.2 [20, 10, 8, 5]] w12 from by repeat (with_reducible first | exact HS.out | apply St.alloc | apply St.drewN | apply St.drew)) 4 (by simp)))
 have qb := hb.k8
 clear hb
 have hcw := St.cells (show St w [intsO wb fw14, memO a.2 a.1 fw14 Ld, pkO 14 d Td, snO 14 2 c Tc, Ass.blk cb 24 [i64 2, i64 2, i64 4, i64 4, i64 2, i64 3, .slice (some ⟨x.1, 0, none⟩) 4 4, .slice (some ⟨x.2, 0, none⟩) 4 4], intsO x.1 [-1, 0, 1, 0], intsO x.2 [20, 10, 8, 5]] w12 from (St.pick (show St w [memO a.2 a.1 fw14 Ld, pkO 14 d Td, snO 14 2 c Tc, intsO wb fw14, Ass.blk cb 24 [i64 2, i64 2, i64 4, i64 4, i64 2, i64 3, .slice (some ⟨x.1, 0, none⟩) 4 4, .slice (some ⟨x.2, 0, none⟩) 4 4], intsO x.1 [-1, 0, 1, 0], intsO x.2 [20, 10, 8, 5]] w12 from by repeat (with_reducible first | exact HS.out | apply St.alloc | apply St.drewN | apply St.drew)) 3 (by simp)))
 have hcp := St.cells (show St w [intsO x.1 [-1, 0, 1, 0], memO a.2 a.1 fw14 Ld, pkO 14 d Td, snO 14 2 c Tc, intsO wb fw14, Ass.blk cb 24 [i64 2, i64 2, i64 4, i64 4, i64 2, i64 3, .slice (some ⟨x.1, 0, none⟩) 4 4, .slice (some ⟨x.2, 0, none⟩) 4 4], intsO x.2 [20, 10, 8, 5]] w12 from (St.pick (show St w [memO a.2 a.1 fw14 Ld, pkO 14 d Td, snO 14 2 c Tc, intsO wb fw14, Ass.blk cb 24 [i64 2, i64 2, i64 4, i64 4, i64 2, i64 3, .slice (some ⟨x.1, 0, none⟩) 4 4, .slice (some ⟨x.2, 0, none⟩) 4 4], intsO x.1 [-1, 0, 1, 0], intsO x.2 [20, 10, 8, 5]] w12 from by repeat (with_reducible first | exact HS.out | apply St.alloc | apply St.drewN | apply St.drew)) 5 (by simp)))
 go_wp2_with fail
 refine Calls.mono (show Calls Tryz.prog 15 #[.agg #[i64 2, i64 2, i64 4, i64 4, i64 2, i64 3, .slice (some ⟨x.1, 0, none⟩) 4 4, .slice (some ⟨x.2, 0, none⟩) 4 4], .slice (some ⟨wb, 0, none⟩) 46 wc, i64 0] w12 (Ret (i64 4) w12) from by have h : Calls Tryz.prog 15 #[.agg #[i64 2, i64 2, i64 4, i64 4, i64 2, i64 3, .slice (some ⟨x.1, 0, none⟩) 4 4, .slice (some ⟨x.2, 0, none⟩) 4 4], .slice (some ⟨wb, 0, none⟩) 46 wc, i64 0] w12 (Ret (i64 (usedN [-1, 0, 1, 0] fw14 40 3 0)) w12) := usage_Used 2 4 4 2 2 3 ([-1, 0, 1, 0] : List Int) x.1 0 4 (some ⟨x.2, 0, none⟩) 4 4 fw14 wb 0 wc 40 0 w12 (by decide) (by decide) (by decide) (by decide) par14.ok (by decide) (by decide) (by decide) hcp hcw; rw [use14.2.2.2.2.2.2.1] at h; exact h) ?_
 rintro e w13 ⟨rfl, hk⟩
 have hs := St.keep (show St w [memO a.2 a.1 fw14 Ld, pkO 14 d Td, snO 14 2 c Tc, intsO wb fw14, Ass.blk cb 24 [i64 2, i64 2, i64 4, i64 4, i64 2, i64 3, .slice (some ⟨x.1, 0, none⟩) 4 4, .slice (some ⟨x.2, 0, none⟩) 4 4], intsO x.1 [-1, 0, 1, 0], intsO x.2 [20, 10, 8, 5]] _ from by repeat (with_reducible first | exact HS.out | apply St.alloc | apply St.drewN | apply St.drew)) hk
 clear HS
 have HS := hid (show St w [memO a.2 a.1 fw14 Ld, pkO 14 d Td, snO 14 2 c Tc, intsO wb fw14, Ass.blk cb 24 [i64 2, i64 2, i64 4, i64 4, i64 2, i64 3, .slice (some ⟨x.1, 0, none⟩) 4 4, .slice (some ⟨x.2, 0, none⟩) 4 4], intsO x.1 [-1, 0, 1, 0], intsO x.2 [20, 10, 8, 5]] w13 from hs)
 clear hs hk
 clear qb hcw hcp
 obtain ⟨_, ⟨hb, _⟩, _⟩ := St.get (show St w [Ass.blk cb 24 [i64 2, i64 2, i64 4, i64 4, i64 2, i64 3, .slice (some ⟨x.1, 0, none⟩) 4 4, .slice (some ⟨x.2, 0, none⟩) 4 4], memO a.2 a.1 fw14 Ld, pkO 14 d Td, snO 14 2 c Tc, intsO wb fw14, intsO x.1 [-1, 0, 1, 0], intsO x.2 [20, 10, 8, 5]] w13 from (St.pick (show St w [memO a.2 a.1 fw14 Ld, pkO 14 d Td, snO 14 2 c Tc, intsO wb fw14, Ass.blk cb 24 [i64 2, i64 2, i64 4, i64 4, i64 2, i64 3, .slice (some ⟨x.1, 0, none⟩) 4 4, .slice (some ⟨x.2, 0, none⟩) 4 4], intsO x.1 [-1, 0, 1, 0], intsO x.2 [20, 10, 8, 5]] w13 from by repeat (with_reducible first | exact HS.out | apply St.alloc | apply St.drewN | apply St.drew)) 4 (by simp)))
 have qb := hb.k8
 clear hb
 have hcw := St.cells (show St w [intsO wb fw14, memO a.2 a.1 fw14 Ld, pkO 14 d Td, snO 14 2 c Tc, Ass.blk cb 24 [i64 2, i64 2, i64 4, i64 4, i64 2, i64 3, .slice (some ⟨x.1, 0, none⟩) 4 4, .slice (some ⟨x.2, 0, none⟩) 4 4], intsO x.1 [-1, 0, 1, 0], intsO x.2 [20, 10, 8, 5]] w13 from (St.pick (show St w [memO a.2 a.1 fw14 Ld, pkO 14 d Td, snO 14 2 c Tc, intsO wb fw14, Ass.blk cb 24 [i64 2, i64 2, i64 4, i64 4, i64 2, i64 3, .slice (some ⟨x.1, 0, none⟩) 4 4, .slice (some ⟨x.2, 0, none⟩) 4 4], intsO x.1 [-1, 0, 1, 0], intsO x.2 [20, 10, 8, 5]] w13 from by repeat (with_reducible first | exact HS.out | apply St.alloc | apply St.drewN | apply St.drew)) 3 (by simp)))
 have hcp := St.cells (show St w [intsO x.1 [-1, 0, 1, 0], memO a.2 a.1 fw14 Ld, pkO 14 d Td, snO 14 2 c Tc, intsO wb fw14, Ass.blk cb 24 [i64 2, i64 2, i64 4, i64 4, i64 2, i64 3, .slice (some ⟨x.1, 0, none⟩) 4 4, .slice (some ⟨x.2, 0, none⟩) 4 4], intsO x.2 [20, 10, 8, 5]] w13 from (St.pick (show St w [memO a.2 a.1 fw14 Ld, pkO 14 d Td, snO 14 2 c Tc, intsO wb fw14, Ass.blk cb 24 [i64 2, i64 2, i64 4, i64 4, i64 2, i64 3, .slice (some ⟨x.1, 0, none⟩) 4 4, .slice (some ⟨x.2, 0, none⟩) 4 4], intsO x.1 [-1, 0, 1, 0], intsO x.2 [20, 10, 8, 5]] w13 from by repeat (with_reducible first | exact HS.out | apply St.alloc | apply St.drewN | apply St.drew)) 5 (by simp)))
 go_wp2_with fail
 refine Calls.mono (show Calls Tryz.prog 15 #[.agg #[i64 2, i64 2, i64 4, i64 4, i64 2, i64 3, .slice (some ⟨x.1, 0, none⟩) 4 4, .slice (some ⟨x.2, 0, none⟩) 4 4], .slice (some ⟨wb, 0, none⟩) 46 wc, i64 3] w13 (Ret (i64 0) w13) from by have h : Calls Tryz.prog 15 #[.agg #[i64 2, i64 2, i64 4, i64 4, i64 2, i64 3, .slice (some ⟨x.1, 0, none⟩) 4 4, .slice (some ⟨x.2, 0, none⟩) 4 4], .slice (some ⟨wb, 0, none⟩) 46 wc, i64 3] w13 (Ret (i64 (usedN [-1, 0, 1, 0] fw14 40 3 3)) w13) := usage_Used 2 4 4 2 2 3 ([-1, 0, 1, 0] : List Int) x.1 0 4 (some ⟨x.2, 0, none⟩) 4 4 fw14 wb 0 wc 40 3 w13 (by decide) (by decide) (by decide) (by decide) par14.ok (by decide) (by decide) (by decide) hcp hcw; rw [use14.2.2.2.2.2.2.2.1] at h; exact h) ?_
 rintro e w14 ⟨rfl, hk⟩
 have hs := St.keep (show St w [memO a.2 a.1 fw14 Ld, pkO 14 d Td, snO 14 2 c Tc, intsO wb fw14, Ass.blk cb 24 [i64 2, i64 2, i64 4, i64 4, i64 2, i64 3, .slice (some ⟨x.1, 0, none⟩) 4 4, .slice (some ⟨x.2, 0, none⟩) 4 4], intsO x.1 [-1, 0, 1, 0], intsO x.2 [20, 10, 8, 5]] _ from by repeat (with_reducible first | exact HS.out | apply St.alloc | apply St.drewN | apply St.drew)) hk
 clear HS
 have HS := hid (show St w [memO a.2 a.1 fw14 Ld, pkO 14 d Td, snO 14 2 c Tc, intsO wb fw14, Ass.blk cb 24 [i64 2, i64 2, i64 4, i64 4, i64 2, i64 3, .slice (some ⟨x.1, 0, none⟩) 4 4, .slice (some ⟨x.2, 0, none⟩) 4 4], intsO x.1 [-1, 0, 1, 0], intsO x.2 [20, 10, 8, 5]] w14 from hs)
 clear hs hk
 clear qb hcw hcp
 obtain ⟨_, ⟨hb, _⟩, _⟩ := St.get (show St w [Ass.blk cb 24 [i64 2, i64 2, i64 4, i64 4, i64 2, i64 3, .slice (some ⟨x.1, 0, none⟩) 4 4, .slice (some ⟨x.2, 0, none⟩) 4 4], memO a.2 a.1 fw14 Ld, pkO 14 d Td, snO 14 2 c Tc, intsO wb fw14, intsO x.1 [-1, 0, 1, 0], intsO x.2 [20, 10, 8, 5]] w14 from (St.pick (show St w [memO a.2 a.1 fw14 Ld, pkO 14 d Td, snO 14 2 c Tc, intsO wb fw14, Ass.blk cb 24 [i64 2, i64 2, i64 4, i64 4, i64 2, i64 3, .slice (some ⟨x.1, 0, none⟩) 4 4, .slice (some ⟨x.2, 0, none⟩) 4 4], intsO x.1 [-1, 0, 1, 0], intsO x.2 [20, 10, 8, 5]] w14 from by repeat (with_reducible first | exact HS.out | apply St.alloc | apply St.drewN | apply St.drew)) 4 (by simp)))
 have qb := hb.k8
 clear hb
 have hcw := St.cells (show St w [intsO wb fw14, memO a.2 a.1 fw14 Ld, pkO 14 d Td, snO 14 2 c Tc, Ass.blk cb 24 [i64 2, i64 2, i64 4, i64 4, i64 2, i64 3, .slice (some ⟨x.1, 0, none⟩) 4 4, .slice (some ⟨x.2, 0, none⟩) 4 4], intsO x.1 [-1, 0, 1, 0], intsO x.2 [20, 10, 8, 5]] w14 from (St.pick (show St w [memO a.2 a.1 fw14 Ld, pkO 14 d Td, snO 14 2 c Tc, intsO wb fw14, Ass.blk cb 24 [i64 2, i64 2, i64 4, i64 4, i64 2, i64 3, .slice (some ⟨x.1, 0, none⟩) 4 4, .slice (some ⟨x.2, 0, none⟩) 4 4], intsO x.1 [-1, 0, 1, 0], intsO x.2 [20, 10, 8, 5]] w14 from by repeat (with_reducible first | exact HS.out | apply St.alloc | apply St.drewN | apply St.drew)) 3 (by simp)))
 have hcp := St.cells (show St w [intsO x.1 [-1, 0, 1, 0], memO a.2 a.1 fw14 Ld, pkO 14 d Td, snO 14 2 c Tc, intsO wb fw14, Ass.blk cb 24 [i64 2, i64 2, i64 4, i64 4, i64 2, i64 3, .slice (some ⟨x.1, 0, none⟩) 4 4, .slice (some ⟨x.2, 0, none⟩) 4 4], intsO x.2 [20, 10, 8, 5]] w14 from (St.pick (show St w [memO a.2 a.1 fw14 Ld, pkO 14 d Td, snO 14 2 c Tc, intsO wb fw14, Ass.blk cb 24 [i64 2, i64 2, i64 4, i64 4, i64 2, i64 3, .slice (some ⟨x.1, 0, none⟩) 4 4, .slice (some ⟨x.2, 0, none⟩) 4 4], intsO x.1 [-1, 0, 1, 0], intsO x.2 [20, 10, 8, 5]] w14 from by repeat (with_reducible first | exact HS.out | apply St.alloc | apply St.drewN | apply St.drew)) 5 (by simp)))
 go_wp2_with fail
 refine Calls.mono (show Calls Tryz.prog 13 #[.agg #[i64 2, i64 2, i64 4, i64 4, i64 2, i64 3, .slice (some ⟨x.1, 0, none⟩) 4 4, .slice (some ⟨x.2, 0, none⟩) 4 4], .slice (some ⟨wb, 0, none⟩) 46 wc, i64 1] w14 (Ret (i64 0) w14) from by have h : Calls Tryz.prog 13 #[.agg #[i64 2, i64 2, i64 4, i64 4, i64 2, i64 3, .slice (some ⟨x.1, 0, none⟩) 4 4, .slice (some ⟨x.2, 0, none⟩) 4 4], .slice (some ⟨wb, 0, none⟩) 46 wc, i64 1] w14 (Ret (i64 (wrap64 (rd fw14 10 - leftN fw14 11 2 - usedN [-1, 0, 1, 0] fw14 40 3 1))) w14) := usage_Held 2 4 4 2 2 3 ([-1, 0, 1, 0] : List Int) x.1 0 4 (some ⟨x.2, 0, none⟩) 4 4 fw14 wb 0 wc 40 1 w14 (by decide) (by decide) (by decide) (by decide) par14.ok (by decide) (by decide) (by decide) hcp hcw (by decide) hcap; rw [use14.2.2.2.2.2.2.2.2.1, use14.2.2.2.2.2.2.2.2.2, show wrap64 (rd fw14 10 - 6 - 4) = 0 from by kernel_rfl] at h; exact h) ?_
 rintro e w15 ⟨rfl, hk⟩
 have hs := St.keep (show St w [memO a.2 a.1 fw14 Ld, pkO 14 d Td, snO 14 2 c Tc, intsO wb fw14, Ass.blk cb 24 [i64 2, i64 2, i64 4, i64 4, i64 2, i64 3, .slice (some ⟨x.1, 0, none⟩) 4 4, .slice (some ⟨x.2, 0, none⟩) 4 4], intsO x.1 [-1, 0, 1, 0], intsO x.2 [20, 10, 8, 5]] _ from by repeat (with_reducible first | exact HS.out | apply St.alloc | apply St.drewN | apply St.drew)) hk
 clear HS
 have HS := hid (show St w [memO a.2 a.1 fw14 Ld, pkO 14 d Td, snO 14 2 c Tc, intsO wb fw14, Ass.blk cb 24 [i64 2, i64 2, i64 4, i64 4, i64 2, i64 3, .slice (some ⟨x.1, 0, none⟩) 4 4, .slice (some ⟨x.2, 0, none⟩) 4 4], intsO x.1 [-1, 0, 1, 0], intsO x.2 [20, 10, 8, 5]] w15 from hs)
 clear hs hk
 clear qb hcw hcp
 obtain ⟨_, hx, _⟩ := St.get (show St w [snO 14 2 c Tc, memO a.2 a.1 fw14 Ld, pkO 14 d Td, intsO wb fw14, Ass.blk cb 24 [i64 2, i64 2, i64 4, i64 4, i64 2, i64 3, .slice (some ⟨x.1, 0, none⟩) 4 4, .slice (some ⟨x.2, 0, none⟩) 4 4], intsO x.1 [-1, 0, 1, 0], intsO x.2 [20, 10, 8, 5]] w15 from (St.pick (show St w [memO a.2 a.1 fw14 Ld, pkO 14 d Td, snO 14 2 c Tc, intsO wb fw14, Ass.blk cb 24 [i64 2, i64 2, i64 4, i64 4, i64 2, i64 3, .slice (some ⟨x.1, 0, none⟩) 4 4, .slice (some ⟨x.2, 0, none⟩) 4 4], intsO x.1 [-1, 0, 1, 0], intsO x.2 [20, 10, 8, 5]] w15 from by repeat (with_reducible first | exact HS.out | apply St.alloc | apply St.drewN | apply St.drew)) 2 (by simp)))
 go_wp2_with fail
 refine Calls.mono (show Calls Tryz.prog 30 _ w15 (Ret (.agg #[i64 0, i64 4, .bool true, i64 0]) w15) from by have h := count_Ans _ hx; rw [HTC.out.1, HTC.out.2] at h; exact h) ?_
 rintro e w16 ⟨rfl, hk⟩
 have hs := St.keep (show St w [memO a.2 a.1 fw14 Ld, pkO 14 d Td, snO 14 2 c Tc, intsO wb fw14, Ass.blk cb 24 [i64 2, i64 2, i64 4, i64 4, i64 2, i64 3, .slice (some ⟨x.1, 0, none⟩) 4 4, .slice (some ⟨x.2, 0, none⟩) 4 4], intsO x.1 [-1, 0, 1, 0], intsO x.2 [20, 10, 8, 5]] _ from by repeat (with_reducible first | exact HS.out | apply St.alloc | apply St.drewN | apply St.drew)) hk
 clear HS
 have HS := hid (show St w [memO a.2 a.1 fw14 Ld, pkO 14 d Td, snO 14 2 c Tc, intsO wb fw14, Ass.blk cb 24 [i64 2, i64 2, i64 4, i64 4, i64 2, i64 3, .slice (some ⟨x.1, 0, none⟩) 4 4, .slice (some ⟨x.2, 0, none⟩) 4 4], intsO x.1 [-1, 0, 1, 0], intsO x.2 [20, 10, 8, 5]] w16 from hs)
 clear hs hk
 clear hx
 obtain ⟨_, hx, _⟩ := St.get (show St w [pkO 14 d Td, memO a.2 a.1 fw14 Ld, snO 14 2 c Tc, intsO wb fw14, Ass.blk cb 24 [i64 2, i64 2, i64 4, i64 4, i64 2, i64 3, .slice (some ⟨x.1, 0, none⟩) 4 4, .slice (some ⟨x.2, 0, none⟩) 4 4], intsO x.1 [-1, 0, 1, 0], intsO x.2 [20, 10, 8, 5]] w16 from (St.pick (show St w [memO a.2 a.1 fw14 Ld, pkO 14 d Td, snO 14 2 c Tc, intsO wb fw14, Ass.blk cb 24 [i64 2, i64 2, i64 4, i64 4, i64 2, i64 3, .slice (some ⟨x.1, 0, none⟩) 4 4, .slice (some ⟨x.2, 0, none⟩) 4 4], intsO x.1 [-1, 0, 1, 0], intsO x.2 [20, 10, 8, 5]] w16 from by repeat (with_reducible first | exact HS.out | apply St.alloc | apply St.drewN | apply St.drew)) 1 (by simp)))
 go_wp2_with fail
 refine Calls.mono (show Calls Tryz.prog 30 _ w16 (Ret (.agg #[i64 0, i64 4, .bool false, i64 0]) w16) from by have h := peek_Ans _ hx; rw [HTD.out.1, HTD.out.2] at h; exact h) ?_
 rintro e w17 ⟨rfl, hk⟩
 have hs := St.keep (show St w [memO a.2 a.1 fw14 Ld, pkO 14 d Td, snO 14 2 c Tc, intsO wb fw14, Ass.blk cb 24 [i64 2, i64 2, i64 4, i64 4, i64 2, i64 3, .slice (some ⟨x.1, 0, none⟩) 4 4, .slice (some ⟨x.2, 0, none⟩) 4 4], intsO x.1 [-1, 0, 1, 0], intsO x.2 [20, 10, 8, 5]] _ from by repeat (with_reducible first | exact HS.out | apply St.alloc | apply St.drewN | apply St.drew)) hk
 clear HS
 have HS := hid (show St w [memO a.2 a.1 fw14 Ld, pkO 14 d Td, snO 14 2 c Tc, intsO wb fw14, Ass.blk cb 24 [i64 2, i64 2, i64 4, i64 4, i64 2, i64 3, .slice (some ⟨x.1, 0, none⟩) 4 4, .slice (some ⟨x.2, 0, none⟩) 4 4], intsO x.1 [-1, 0, 1, 0], intsO x.2 [20, 10, 8, 5]] w17 from hs)
 clear hs hk
 clear hx
 obtain ⟨_, ⟨hb, _⟩, _⟩ := St.get (show St w [Ass.blk cb 24 [i64 2, i64 2, i64 4, i64 4, i64 2, i64 3, .slice (some ⟨x.1, 0, none⟩) 4 4, .slice (some ⟨x.2, 0, none⟩) 4 4], memO a.2 a.1 fw14 Ld, pkO 14 d Td, snO 14 2 c Tc, intsO wb fw14, intsO x.1 [-1, 0, 1, 0], intsO x.2 [20, 10, 8, 5]] w17 from (St.pick (show St w [memO a.2 a.1 fw14 Ld, pkO 14 d Td, snO 14 2 c Tc, intsO wb fw14, Ass.blk cb 24 [i64 2, i64 2, i64 4, i64 4, i64 2, i64 3, .slice (some ⟨x.1, 0, none⟩) 4 4, .slice (some ⟨x.2, 0, none⟩) 4 4], intsO x.1 [-1, 0, 1, 0], intsO x.2 [20, 10, 8, 5]] w17 from by repeat (with_reducible first | exact HS.out | apply St.alloc | apply St.drewN | apply St.drew)) 4 (by simp)))
 have qb := hb.k8
 clear hb
 go_wp2_with fail
 refine Calls.mono (show Calls Tryz.prog 40 #[.agg #[i64 2, i64 2, i64 4, i64 4, i64 2, i64 3, .slice (some ⟨x.1, 0, none⟩) 4 4, .slice (some ⟨x.2, 0, none⟩) 4 4]] w17 (Ret (i64 46) w17) from plan_Size 2 2 4 4 2 3 (some ⟨x.1, 0, none⟩) 4 4 (some ⟨x.2, 0, none⟩) 4 4 w17 (by decide) (by decide) (by decide) (by decide) (by decide)) ?_
 rintro e w18 ⟨rfl, hk⟩
 have hs := St.keep (show St w [memO a.2 a.1 fw14 Ld, pkO 14 d Td, snO 14 2 c Tc, intsO wb fw14, Ass.blk cb 24 [i64 2, i64 2, i64 4, i64 4, i64 2, i64 3, .slice (some ⟨x.1, 0, none⟩) 4 4, .slice (some ⟨x.2, 0, none⟩) 4 4], intsO x.1 [-1, 0, 1, 0], intsO x.2 [20, 10, 8, 5]] _ from by repeat (with_reducible first | exact HS.out | apply St.alloc | apply St.drewN | apply St.drew)) hk
 clear HS
 have HS := hid (show St w [memO a.2 a.1 fw14 Ld, pkO 14 d Td, snO 14 2 c Tc, intsO wb fw14, Ass.blk cb 24 [i64 2, i64 2, i64 4, i64 4, i64 2, i64 3, .slice (some ⟨x.1, 0, none⟩) 4 4, .slice (some ⟨x.2, 0, none⟩) 4 4], intsO x.1 [-1, 0, 1, 0], intsO x.2 [20, 10, 8, 5]] w18 from hs)
 clear hs hk
 go_wp2_with fail
 go_ret
 exact ⟨rfl, HS.out.k⟩
end Go.Proofs.YthaceckccobgeaaGreat

namespace Go.Proofs.YthaceckccobgeaaGreat
open Go.RowKit
set_option linter.unusedVariables false
set_option linter.unusedSimpArgs false
set_option maxRecDepth 100000
def intsK (b c : Nat) (W : List Int) : Ass where
 At R w := (∃ cur, w.heap[b]? = some (.cells cur 3 (0, 0)) ∧ cur.size = c ∧ W.length ≤ c ∧ c ≤ maxLen ∧ cur.toList.take W.length = ints W) ∧ ∀ k, R k ↔ k = b
 st := by
  rintro R S w w' ⟨⟨cur, h, h2⟩, e⟩ hk hS
  exact ⟨⟨cur, (hk.block b (Array.getElem?_eq_some_iff.1 h).1 (hS b ((e b).2 rfl))).trans h, h2⟩, e⟩
 lt := by rintro R w ⟨⟨cur, h, _⟩, e⟩ k hk; rw [(e k).1 hk]; exact (Array.getElem?_eq_some_iff.1 h).1
theorem intsK_ints {b c : Nat} {W : List Int} {R : Nat → Prop} {w : World} (h : (intsK b c W).At R w) : (intsO b W).At R w := by
 obtain ⟨⟨cur, h1, h2, h3, h4, h5⟩, e⟩ := h
 exact ⟨⟨cur, h1, by omega, h5⟩, e⟩
theorem intsK_row {b c : Nat} {W : List Int} {R : Nat → Prop} {w : World} (B : Nat) (hB : B ≤ b) (h : (intsK b c W).At R w) : w.ownsRow B 3 1 (.slice (some ⟨b, 0, none⟩) W.length c) W.length (ints W) := by
 obtain ⟨⟨cur, h1, h2, h3, h4, h5⟩, e⟩ := h
 exact ⟨by simp [ints], .inr ⟨b, c, cur, rfl, hB, h1, h3, h4, by omega, by rw [Nat.mul_one]; exact h5⟩⟩
theorem St.cellsK {w0 w : World} {b c : Nat} {W : List Int} {l : List Ass} (h : St w0 (intsK b c W :: l) w) : ∀ i, i < W.length → w.cell? ⟨b, 0 + i, none⟩ = some (i64 (rd W i)) := by
 obtain ⟨R, hR, _⟩ := h.get
 exact intsO_cells (intsK_ints hR)
theorem St.head {w0 w : World} {p : Ass} {l : List Ass} (h : St w0 (p :: l) w) : St w0 [p] w := by
 obtain ⟨R, hR, hz⟩ := h.get
 exact St.one h.k hR hz
end Go.Proofs.YthaceckccobgeaaGreat

namespace Go.Proofs.YthaceckccobgeaaGreat
open Go.RowKit
set_option linter.unusedVariables false
set_option linter.unusedSimpArgs false
set_option maxRecDepth 100000
theorem ref_Right_all14 (t s g l r k : Int) (PA : Option Addr) (P : List Int) (pc : Nat) (LA : Option Addr) (L : List Int) (lc : Nat) (w : World) (hP : IntsAt w PA P) (hL : IntsAt w LA L) (hpl : P.length ≤ 1000) (hll : L.length ≤ 1000) :
 Calls Tryz.prog 18 #[.agg #[i64 t, i64 s, i64 g, i64 l, i64 r, i64 k, .slice PA P.length pc, .slice LA L.length lc]] w (Ret (.bool (rightB t s g l r k P L)) w) := by
 cases hh : headB t s g l r k P.length L.length
 · exact ref_Right_no _ _ _ _ _ _ _ _ _ _ _ _ _ hpl hll hh
 · exact ref_Right_yes _ _ _ _ _ _ _ _ _ _ _ _ _ hP hL hpl hll hh
theorem ParR.of_right {t s g l r k : Int} {P L : List Int} (h : Right t s g l r k P L) : ParR P := fun i hi =>
 ⟨fun e => by rw [e]; exact h.root, fun h0 => by have := h.par i h0 hi; omega⟩
theorem fresh14_len (s K pn : Nat) (L : List Int) : (freshW (s : Int) (K : Int) pn L).length = pn * (6 + 2 * s) + 2 * K := by
 unfold freshW
 rw [layN_length, List.length_replicate]
 have : ((pn : Int) * (6 + 2 * (s : Int)) + 2 * (K : Int)) = ((pn * (6 + 2 * s) + 2 * K : Nat) : Int) := by push_cast; rfl
 rw [this, Int.toNat_natCast]
end Go.Proofs.YthaceckccobgeaaGreat

namespace Go.Proofs.YthaceckccobgeaaGreat
open Go.RowKit
set_option linter.unusedVariables false
set_option linter.unusedSimpArgs false
set_option maxRecDepth 100000
def leafB (P : List Int) (v : Nat) : Bool := (List.range P.length).all (fun i => rd P i != (v : Int))
def leavesN (P : List Int) (n : Nat) : List Nat := (List.range n).filter (leafB P)
theorem leavesN_succ (P : List Int) (n : Nat) : leavesN P (n + 1) = leavesN P n ++ (if leafB P n = true then [n] else []) := by
 unfold leavesN
 rw [List.range_succ, List.filter_append]
 congr 1
 by_cases h : leafB P n = true
 · simp [h]
 · simp [h]
theorem leavesN_len (P : List Int) (n : Nat) : (leavesN P n).length ≤ n := by
 unfold leavesN
 have := List.length_filter_le (leafB P) (List.range n)
 simpa using this
theorem leafB_last {P : List Int} (h : ParR P) (h0 : 0 < P.length) : leafB P (P.length - 1) = true := by
 unfold leafB
 rw [List.all_eq_true]
 intro i hi
 have hi := List.mem_range.1 hi
 have := (h.ok i hi).2
 simp
 omega
theorem leavesN_pos {P : List Int} (h : ParR P) (h0 : 0 < P.length) : 0 < (leavesN P P.length).length := by
 refine List.length_pos_of_mem (a := P.length - 1) ?_
 unfold leavesN
 rw [List.mem_filter]
 exact ⟨List.mem_range.2 (by omega), leafB_last h h0⟩
def leafN (P : List Int) (n : Nat) : Nat := (leavesN P P.length).getD (n % (leavesN P P.length).length) 0
theorem leafN_lt {P : List Int} (h : ParR P) (h0 : 0 < P.length) (n : Nat) : leafN P n < P.length := by
 have h1 := leavesN_pos h h0
 have h2 : n % (leavesN P P.length).length < (leavesN P P.length).length := Nat.mod_lt _ h1
 unfold leafN
 rw [List.getD_eq_getElem?_getD, List.getElem?_eq_getElem h2]
 have h3 := List.getElem_mem h2
 unfold leavesN at h3 ⊢
 exact List.mem_range.1 (List.mem_filter.1 h3).1
set_option maxHeartbeats 2000000 in
theorem ref_Leaf (t s g l r k : Int) (P : List Int) (pb po pc : Nat) (LA : Option Addr) (ln lc : Nat) (v : Nat) (w : World) (hp : P.length ≤ 1000) (hv : v < P.length) (hP : ∀ i, i < P.length → w.cell? ⟨pb, po + i, none⟩ = some (i64 (rd P i))) :
 Calls Tryz.prog 85 #[.agg #[i64 t, i64 s, i64 g, i64 l, i64 r, i64 k, .slice (some ⟨pb, po, none⟩) P.length pc, .slice LA ln lc], i64 (v : Int)] w (Ret (.bool (leafB P v)) w) := by
 have hpz : pb < w.heap.size := by have h := World.block_lt_of_cell? _ _ (hP v hv); simpa using h
 have HP := hid hP
 have g1 : decide (0 ≤ (v : Int)) = true := decide_eq_true (by omega)
 have g2 : decide ((v : Int) < P.length) = true := decide_eq_true (by omega)
 have HLB := hid (show leafB P v = (List.range P.length).all (fun i => rd P i != (v : Int)) from rfl)
 generalize leafB P v = lb at *
 clear hP
 go_enter Tryz.func85, Tryz.ntmps85
 have HCB := hid (show Blk (w.alloc (.cells #[i64 t, i64 s, i64 g, i64 l, i64 r, i64 k, .slice (some ⟨pb, po, none⟩) P.length pc, .slice LA ln lc] 24)) w.heap.size 24 [i64 t, i64 s, i64 g, i64 l, i64 r, i64 k, .slice (some ⟨pb, po, none⟩) P.length pc, .slice LA ln lc] from Blk.made rfl rfl)
 have HK0 := hid (show Keep0 w (w.alloc (.cells #[i64 t, i64 s, i64 g, i64 l, i64 r, i64 k, .slice (some ⟨pb, po, none⟩) P.length pc, .slice LA ln lc] 24)) from (Keep.refl _ _).alloc _)
 go_wp2_with fail
 generalize w.alloc (.cells #[i64 t, i64 s, i64 g, i64 l, i64 r, i64 k, .slice (some ⟨pb, po, none⟩) P.length pc, .slice LA ln lc] 24) = w0 at *
 go_loopw [5] (fun v5 wr => ∃ i : Nat, i ≤ P.length ∧ v5 = .int .i64 i ∧ (∀ j, j < i → rd P j ≠ (v : Int)) ∧ Keep0 w0 wr) (fun x _ => P.length - (intOf x).toNat)
 case atStart => exact ⟨0, Nat.zero_le _, rfl, fun j hj => by omega, Keep.refl _ _⟩
 case round =>
  obtain ⟨i, hi, rfl, hno, hk⟩ := hrel
  have HK := hid hk
  have HKW := hid (Keep0.step HK0.out hk)
  have qb := (hk.blk HCB.out (fun h => h)).k8
  have HNO := hid hno
  clear hk hno
  by_cases hlt : i < P.length
  · have hc := (cell_old HKW.out hpz (fun h => h) _).trans (HP.out i hlt)
    have hz2 := Nat.lt_of_lt_of_le hpz HKW.out.size
    obtain ⟨x, hx⟩ : ∃ x, x = rd P i := ⟨_, rfl⟩
    rw [← hx] at hc
    have HX := hid hx
    clear hx
    by_cases e : x = (v : Int)
    · subst e
      obtain rfl : lb = false := by
       rw [HLB.out, List.all_eq_false]
       exact ⟨i, List.mem_range.2 hlt, by rw [← HX.out]; simp⟩
      go_wp2_with fail
      go_ret
      exact ⟨rfl, HKW.out⟩
    · have g3 : (x == (v : Int)) = false := beq_eq_false_iff_ne.2 e
      go_wp2_with fail
      go_roundw
      case rel => exact ⟨i + 1, by omega, by go_num, fun j hj => by
       by_cases ej : j = i
       · subst ej; rw [← HX.out]; exact e
       · exact HNO.out j (by omega), HK.out⟩
      case measure => simp [intOf]; omega
  · obtain rfl : i = P.length := by omega
    obtain rfl : lb = true := by
     rw [HLB.out, List.all_eq_true]
     intro j hj
     have := HNO.out j (List.mem_range.1 hj)
     simpa using this
    go_wp2_with fail
    go_ret
    exact ⟨rfl, HKW.out⟩
set_option maxHeartbeats 4000000 in
theorem law12_Leaf (t s g l r k : Int) (P : List Int) (pb po pc : Nat) (LA : Option Addr) (ln lc : Nat) (n : Nat) (w : World) (hp : P.length ≤ 1000) (ho : ParR P) (h0 : 0 < P.length) (hP : ∀ i, i < P.length → w.cell? ⟨pb, po + i, none⟩ = some (i64 (rd P i))) :
 Calls Tryz.prog 42 #[.agg #[i64 t, i64 s, i64 g, i64 l, i64 r, i64 k, .slice (some ⟨pb, po, none⟩) P.length pc, .slice LA ln lc], i64 (n : Int)] w (Ret (i64 (leafN P n : Nat)) w) := by
 obtain ⟨i0, hti, hz0, hz1, hz2⟩ := info_parts info_int
 have HI := hid hti
 have hpz : pb < w.heap.size := by have h := World.block_lt_of_cell? _ _ (hP 0 h0); simpa using h
 have HLF := hid (fun (v : Nat) (w' : World) (hv : v < P.length) (hk : Keep0 w w') => ref_Leaf t s g l r k P pb po pc LA ln lc v w' hp hv (fun i hi => (cell_old hk hpz (fun h => h) _).trans (hP i hi)))
 have HPOS := hid (leavesN_pos ho h0)
 have HLN := hid (show leafN P n = (leavesN P P.length).getD (n % (leavesN P P.length).length) 0 from rfl)
 have HSC := hid (leavesN_succ P)
 have HLE := hid (leavesN_len P)
 generalize leafN P n = lf at *
 clear hti hP ho
 go_enter Tryz.func42, Tryz.ntmps42
 have HB := hid (show Blk (w.alloc (.cells #[i64 t, i64 s, i64 g, i64 l, i64 r, i64 k, .slice (some ⟨pb, po, none⟩) P.length pc, .slice LA ln lc] 24)) w.heap.size 24 [i64 t, i64 s, i64 g, i64 l, i64 r, i64 k, .slice (some ⟨pb, po, none⟩) P.length pc, .slice LA ln lc] from Blk.made rfl rfl)
 go_wp2_with fail
 have HS := hid (St.nw (St.nw (St.nil (Keep.refl _ w)) (Nw.blk HB.out ((Keep.refl _ _).alloc _) (Nat.le_refl _))) (rowO_nil 3 1 _))
 clear HB
 generalize w.alloc (.cells #[i64 t, i64 s, i64 g, i64 l, i64 r, i64 k, .slice (some ⟨pb, po, none⟩) P.length pc, .slice LA ln lc] 24) = w0 at *
 go_loopw [5, 6] (fun v5 v6 wr => ∃ (i : Nat) (A : Option Addr) (c : Nat), i ≤ P.length ∧ v6 = .int .i64 i ∧ v5 = .slice A (leavesN P i).length c ∧ St w [rowO 3 1 (.slice A (leavesN P i).length c) (leavesN P i).length (ints (nats (leavesN P i))), Ass.blk w.heap.size 24 [i64 t, i64 s, i64 g, i64 l, i64 r, i64 k, .slice (some ⟨pb, po, none⟩) P.length pc, .slice LA ln lc]] wr) (fun _ x _ => P.length - (intOf x).toNat)
 case atStart => exact ⟨0, none, 0, Nat.zero_le _, rfl, rfl, HS.out⟩
 case round =>
  obtain ⟨i, A, c, hi, rfl, rfl, hs⟩ := hrel
  clear HS
  have HS := hid hs
  obtain ⟨_, ⟨hb, _⟩, _⟩ := St.get (St.pick hs 1 (by simp))
  have qb := hb.k8
  clear hs hb
  by_cases hlt : i < P.length
  · have hlc := HLF.out i wr hlt HS.out.k
    have hsc := HSC.out i
    have HLC := hid hlc
    have HSI := hid hsc
    have hle := HLE.out i
    clear hlc hsc
    cases hlb : leafB P i with
    | false =>
     rw [hlb] at HLC HSI
     clear hlb
     go_wp2_with fail
     refine HLC.out.mono ?_
     rintro e w1 ⟨rfl, hk⟩
     have HS1 := hid (St.keep HS.out hk)
     clear hk qb HS
     obtain ⟨n0, hn0⟩ : ∃ n, n = (leavesN P i).length := ⟨_, rfl⟩
     go_wp2_with fail
     go_roundw
     case rel => exact ⟨i + 1, A, c, by omega, by go_num, by rw [HSI.out]; simp, by rw [HSI.out]; simpa using HS1.out⟩
     case measure => simp [intOf]; omega
    | true =>
     rw [hlb] at HLC HSI
     clear hlb
     go_wp2_with fail
     refine HLC.out.mono ?_
     rintro e w1 ⟨rfl, hk⟩
     have HS1 := hid (St.keep HS.out hk)
     obtain ⟨_, ⟨ho, _⟩, _⟩ := St.get HS1.out
     have HR := hid ho
     obtain ⟨n0, hn0⟩ : ∃ n, n = (leavesN P i).length := ⟨_, rfl⟩
     obtain ⟨xs0, hxs⟩ : ∃ x, x = ints (nats (leavesN P i)) := ⟨_, rfl⟩
     rw [← hn0, ← hxs] at HR
     rw [← hn0]
     have HN0 := hid hn0
     have HXS := hid hxs
     have hnb : n0 ≤ 1000 := by omega
     clear hn0 hxs ho hk qb HS
     go_upto_region 4 with (at_builtin; refine wpl_append_own ?a1 (.tmp 17) (.tmp 19) 22 ?a2 (0) 3 i0 ?z 1 8 ?a3 ?a4 ?a5 ?a6 ?a7 ?a8 ?a9 (.slice A n0 c) (n0) (xs0) ?a10 ?hown (⟨w1.heap.size, 0, none⟩) (1) (1) ([i64 (i : Int)]) ?a11 ?a12 ?hnews ?hone ?h63 ?hby ?hbase ?_; (case a1 => rfl); (case a2 => rfl); (case a3 => exact Tryz.underlying22); (case a4 => exact HI.out); (case a5 => exact hz0); (case a6 => exact hz1); (case a7 => exact hz2); (case a8 => rfl); (case a9 => decide); (case a10 => rfl); (case a11 => rfl); (case a12 => rfl); (case hown => exact ownsRow_keep (S := fun _ => False) HR.out (by repeat (with_reducible first | exact Keep.refl _ _ | apply Keep.alloc | apply Keep.drew)) (fun _ _ h => h)); (case h63 => unfold maxLen; omega); (case hby => omega); (case hnews => exact news_at (Blk.made (by simp) rfl)); (case hone => simp [Value.oneCell']); (case hbase => omega); intro A9 c9 w9 hown9 hg9 hsl9; have HS9 := hid (St.tr HS1.out (fun R hr => rowO_app (by rw [← HN0.out, ← HXS.out] at hr; exact hr) ((Keep.refl _ _).alloc _) hown9 hg9 hsl9.1)); clear hown9 hg9 hsl9)
     go_wp2_with fail
     go_roundw
     case rel =>
      refine ⟨i + 1, A9, c9, by omega, by go_num, by rw [HSI.out, List.length_append, HN0.out]; rfl, ?_⟩
      have h := HS9.out
      have e1 : (leavesN P (i + 1)).length = n0 + 1 := by rw [HSI.out, List.length_append, HN0.out]; rfl
      have e2 : ints (nats (leavesN P (i + 1))) = xs0 ++ [i64 (i : Int)] := by rw [HSI.out]; simp only [if_true]; rw [nats_snoc, ints_snocT, HXS.out]
      rw [e1, e2]
      exact h
     case measure => simp [intOf]; omega
  · obtain rfl : i = P.length := by omega
    obtain ⟨_, hr, _⟩ := St.get HS.out
    obtain ⟨m, hm⟩ : ∃ m, m = n % (leavesN P P.length).length := ⟨_, rfl⟩
    have hml : m < (leavesN P P.length).length := by rw [hm]; exact Nat.mod_lt _ HPOS.out
    obtain ⟨rb, e1, hrz, hcl⟩ := rowO_cell hr hml
    subst e1
    have hcc := hcl (i64 (lf : Nat)) (by rw [HLN.out, ← hm]; simp [ints, nats, List.getElem?_map, hml])
    have hmi : (n : Int).tmod ((leavesN P P.length).length : Int) = (m : Int) := by rw [Int.tmod_eq_emod_of_nonneg (by omega), hm]; push_cast; rfl
    have hl0 : ¬ (leavesN P P.length).length = 0 := by omega
    have hl1 : ¬ leavesN P P.length = [] := fun e => hl0 (by rw [e]; rfl)
    clear hr hcl hm
    generalize leavesN P P.length = ls at *
    go_wp2_with fail
    go_ret
    exact ⟨rfl, HS.out.k⟩
end Go.Proofs.YthaceckccobgeaaGreat
