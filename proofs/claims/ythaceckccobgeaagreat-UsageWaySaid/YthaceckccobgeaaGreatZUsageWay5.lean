/- Contracts and plain laws for UsageWay, part 5: what the walk of the law leans on. -/
import Derived.Deep.DeepCutAuto
import Derived.RangeFuncNested
import Derived.RangeFuncBound
import Derived.RangeFuncCalls
import Derived.RangeFuncLeaves
import Derived.Shelf.Abstract
import Derived.Shelf.RegionOpen
import Derived.WalkKit
import Derived.OwnWalkIn
import Derived.TacticsInMore
import Derived.LoopNIn
import Derived.LoopIn
import Derived.Maps.AppendAt
import Derived.OrdersIn
import Derived.TacticsIn
import Derived.Test.YthaceckccobgeaaGreatZUsageWay2
import Derived.Test.YthaceckccobgeaaGreatZUsageWay3
import Derived.Test.YthaceckccobgeaaGreatZUsageWay4
namespace Go.Proofs.YthaceckccobgeaaGreat
open Go.RowKit
set_option linter.unusedVariables false
set_option linter.unusedSimpArgs false
set_option maxRecDepth 100000
theorem ints_oneT (l : List Int) : ∀ u ∈ ints l, u.oneCell' = true := by
 intro u hu
 simp only [ints, List.mem_map] at hu
 obtain ⟨x, _, rfl⟩ := hu
 rfl
theorem addr_addT (b o j : Nat) : (⟨b, o, none⟩ : Addr).add j = ⟨b, o + j, none⟩ := by unfold Addr.add; split <;> simp_all
theorem row_news {w w' : World} {b o : Nat} {l : List Int} (hk : Keep0 w w') (h : ∀ i, i < l.length → w.cell? ⟨b, o + i, none⟩ = some (i64 (rd l i))) (j : Nat) (u : Value) (hj : (ints l)[j]? = some u) : w'.cell? ((⟨b, o, none⟩ : Addr).add j) = some u := by
 have hjl : j < l.length := by have := (List.getElem?_eq_some_iff.1 hj).1; simpa [ints] using this
 have h0 := h j hjl
 rw [ints_get l j hjl] at hj
 rw [addr_addT, cell_old hk (by have := World.block_lt_of_cell? _ _ h0; simpa using this) (fun h => h), h0]
 exact hj
theorem row0_made (w : World) : Nw (rowO 3 1 (.slice (some ⟨w.heap.size, 0, none⟩) 0 0) 0 []) w (w.alloc (.cells #[] 3)) :=
 ⟨fun k => k = w.heap.size, ⟨own_base (World.ownsRow_made w #[] 0 (Nat.le_refl _) (by unfold maxLen; omega) (by simp)) (Nat.zero_le _), fun k => by simp [Value.ownBlock, eq_comm]⟩, (Keep.refl _ _).alloc _, fun k h => by subst h; exact Nat.le_refl _⟩
theorem St.out {w0 w : World} {l : List Ass} (h : St w0 l w) : Nw (stars l) w0 w := by
 obtain ⟨hk, U, h1, h2⟩ := h
 exact ⟨U, h1, hk, h2⟩
theorem perm5T {α : Type _} (a b c d e : α) : [a, b, c, d, e].Perm [a, b, e, d, c] := ((List.Perm.swap _ _ _).trans (((List.Perm.swap _ _ _).cons _).trans (List.Perm.swap _ _ _)) |>.cons b).cons a
set_option maxHeartbeats 2000000 in
theorem ref_OwnT (t s g l r k : Int) (P L : List Int) (pb po lb lo pc lc : Nat) (w : World) (hp : P.length ≤ 1000) (hl : L.length ≤ 1000)
 (hP : ∀ i, i < P.length → w.cell? ⟨pb, po + i, none⟩ = some (i64 (rd P i))) (hL : ∀ i, i < L.length → w.cell? ⟨lb, lo + i, none⟩ = some (i64 (rd L i))) :
 Calls Tryz.prog 44 #[.agg #[i64 t, i64 s, i64 g, i64 l, i64 r, i64 k, .slice (some ⟨pb, po, none⟩) P.length pc, .slice (some ⟨lb, lo, none⟩) L.length lc]] w fun e w' => ∃ x : Option Addr × Nat × Option Addr × Nat, e = .returned (.agg #[i64 t, i64 s, i64 g, i64 l, i64 r, i64 k, .slice x.1 P.length x.2.1, .slice x.2.2.1 L.length x.2.2.2]) ∧ Nw (stars [rowO 3 1 (.slice x.1 P.length x.2.1) P.length (ints P), rowO 3 1 (.slice x.2.2.1 L.length x.2.2.2) L.length (ints L)]) w w' := by
 obtain ⟨i0, hti, hz0, hz1, hz2⟩ := info_parts info_int
 have HI := hid hti
 clear hti
 have HP := hid hP
 have HL := hid hL
 clear hP hL
 go_enter Tryz.func44, Tryz.ntmps44
 go_upto_region 2 with fail
 have HS := hid (St.nw (St.nw (St.nw (St.nil (Keep.refl _ w)) (Nw.blk (w' := w.alloc (.cells #[i64 t, i64 s, i64 g, i64 l, i64 r, i64 k, .slice (some ⟨pb, po, none⟩) P.length pc, .slice (some ⟨lb, lo, none⟩) L.length lc] 24)) (b := w.heap.size) (Blk.made rfl rfl) ((Keep.refl _ _).alloc _) (Nat.le_refl _))) (Nw.blk (w' := (w.alloc (.cells #[i64 t, i64 s, i64 g, i64 l, i64 r, i64 k, .slice (some ⟨pb, po, none⟩) P.length pc, .slice (some ⟨lb, lo, none⟩) L.length lc] 24)).alloc (.cells #[i64 0, i64 0, i64 0, i64 0, i64 0, i64 0, .slice none 0 0, .slice none 0 0] 24)) (b := w.heap.size + 1) (Blk.made (by simp) rfl) ((Keep.refl _ _).alloc _) (by simp)))
  (Nw.blk (w' := ((w.alloc (.cells #[i64 t, i64 s, i64 g, i64 l, i64 r, i64 k, .slice (some ⟨pb, po, none⟩) P.length pc, .slice (some ⟨lb, lo, none⟩) L.length lc] 24)).alloc (.cells #[i64 0, i64 0, i64 0, i64 0, i64 0, i64 0, .slice none 0 0, .slice none 0 0] 24)).alloc (.cells #[i64 t, i64 s, i64 g, i64 l, i64 r, i64 k, .slice (some ⟨pb, po, none⟩) P.length pc, .slice (some ⟨lb, lo, none⟩) L.length lc] 24)) (b := w.heap.size + 1 + 1) (Blk.made (by simp) rfl) ((Keep.refl _ _).alloc _) (by simp)))
 generalize ((w.alloc (.cells #[i64 t, i64 s, i64 g, i64 l, i64 r, i64 k, .slice (some ⟨pb, po, none⟩) P.length pc, .slice (some ⟨lb, lo, none⟩) L.length lc] 24)).alloc (.cells #[i64 0, i64 0, i64 0, i64 0, i64 0, i64 0, .slice none 0 0, .slice none 0 0] 24)).alloc (.cells #[i64 t, i64 s, i64 g, i64 l, i64 r, i64 k, .slice (some ⟨pb, po, none⟩) P.length pc, .slice (some ⟨lb, lo, none⟩) L.length lc] 24) = w1 at *
 obtain ⟨_, ⟨hb3, _⟩, _⟩ := St.get HS.out
 obtain ⟨_, ⟨hb1, _⟩, _⟩ := St.get (St.pick HS.out 2 (by simp))
 have q1 := hb1.k8
 have q3 := hb3.k8
 have z3 : w.heap.size + 1 + 1 < w1.heap.size := hb3.lt
 clear hb1 hb3
 go_upto_region 3 with (at_builtin; refine wpl_append_own ?a1 (.tmp 5) (.tmp 7) 22 ?a2 (0) 3 i0 ?z 1 8 ?a3 ?a4 ?a5 ?a6 ?a7 ?a8 ?a9 (.slice (some ⟨w1.heap.size, 0, none⟩) 0 0) (0) ([]) ?a10 ?hown (⟨pb, po, none⟩) (P.length) (pc) (ints P) ?a11 ?a12 ?hnews ?hone ?h63 ?hby ?hbase ?_; (case a1 => rfl); (case a2 => rfl); (case a3 => exact Tryz.underlying22); (case a4 => exact HI.out); (case a5 => exact hz0); (case a6 => exact hz1); (case a7 => exact hz2); (case a8 => rfl); (case a9 => decide); (case a10 => rfl); (case a11 => rfl); (case a12 => simp [ints]); (case hown => exact own_base (World.ownsRow_made w1 #[] 0 (Nat.le_refl _) (by unfold maxLen; omega) (by simp)) (Nat.zero_le _)); (case h63 => unfold maxLen; omega); (case hby => omega); (case hnews => intro j u hj; exact row_news (HS.out.k.alloc (.cells #[] 3)) HP.out j u hj); (case hone => exact ints_oneT P); (case hbase => simp); intro A2 c2 w2 hown hg hsl; have HS2 := hid (St.tr (St.nw HS.out (row0_made _)) (fun R hr => rowO_app hr (Keep.refl _ _) hown hg hsl.1)); clear hown hg hsl HS q1 q3 z3; obtain ⟨_, ⟨hb3, _⟩, _⟩ := St.get (St.pick HS2.out 1 (by simp)); have q3 := hb3.k8; have z3 := hb3.lt; clear hb3)
 have hs := St.tr (St.pick HS2.out 1 (by simp)) (fun R hr => blk_store hr 6 (.slice A2 P.length c2))
 clear HS2 z3 q3
 generalize w2.setCell ⟨w.heap.size + 1 + 1, 6, none⟩ (.slice A2 P.length c2) = w4 at *
 have HS := hid (show St w [Ass.blk (w.heap.size + 1 + 1) 24 [i64 t, i64 s, i64 g, i64 l, i64 r, i64 k, .slice A2 P.length c2, .slice (some ⟨lb, lo, none⟩) L.length lc], rowO 3 1 (.slice A2 P.length c2) P.length (ints P), Ass.blk (w.heap.size + 1) 24 [i64 0, i64 0, i64 0, i64 0, i64 0, i64 0, .slice none 0 0, .slice none 0 0], Ass.blk w.heap.size 24 [i64 t, i64 s, i64 g, i64 l, i64 r, i64 k, .slice (some ⟨pb, po, none⟩) P.length pc, .slice (some ⟨lb, lo, none⟩) L.length lc]] w4 from by simp only [Nat.zero_add, List.nil_append, List.set_cons_succ, List.set_cons_zero] at hs; exact hs)
 clear hs
 obtain ⟨_, ⟨hb3, _⟩, _⟩ := St.get HS.out
 obtain ⟨_, ⟨hb1, _⟩, _⟩ := St.get (St.pick HS.out 3 (by simp))
 have q1 := hb1.k8
 have q3 := hb3.k8
 have z3 : w.heap.size + 1 + 1 < w4.heap.size := hb3.lt
 clear hb1 hb3
 go_upto_region 4 with (at_builtin; refine wpl_append_own ?a1 (.tmp 10) (.tmp 12) 22 ?a2 (0) 3 i0 ?z2 1 8 ?a3 ?a4 ?a5 ?a6 ?a7 ?a8 ?a9 (.slice (some ⟨w4.heap.size, 0, none⟩) 0 0) (0) ([]) ?a10 ?hown (⟨lb, lo, none⟩) (L.length) (lc) (ints L) ?a11 ?a12 ?hnews ?hone ?h63 ?hby ?hbase ?_; (case a1 => rfl); (case a2 => rfl); (case a3 => exact Tryz.underlying22); (case a4 => exact HI.out); (case a5 => exact hz0); (case a6 => exact hz1); (case a7 => exact hz2); (case a8 => rfl); (case a9 => decide); (case a10 => rfl); (case a11 => rfl); (case a12 => simp [ints]); (case hown => exact own_base (World.ownsRow_made w4 #[] 0 (Nat.le_refl _) (by unfold maxLen; omega) (by simp)) (Nat.zero_le _)); (case h63 => unfold maxLen; omega); (case hby => omega); (case hnews => intro j u hj; exact row_news (HS.out.k.alloc (.cells #[] 3)) HL.out j u hj); (case hone => exact ints_oneT L); (case hbase => simp); intro A5 c5 w5 hown hg hsl; have HS5 := hid (St.tr (St.nw HS.out (row0_made _)) (fun R hr => rowO_app hr (Keep.refl _ _) hown hg hsl.1)); clear hown hg hsl HS q1 q3 z3; obtain ⟨_, ⟨hb3, _⟩, _⟩ := St.get (St.pick HS5.out 1 (by simp)); have q3 := hb3.k8; have z3 := hb3.lt; clear hb3)
 have hs := St.tr (St.pick HS5.out 1 (by simp)) (fun R hr => blk_store hr 7 (.slice A5 L.length c5))
 clear HS5 z3 q3
 generalize w5.setCell ⟨w.heap.size + 1 + 1, 7, none⟩ (.slice A5 L.length c5) = w6 at *
 have HS := hid (show St w [Ass.blk (w.heap.size + 1 + 1) 24 [i64 t, i64 s, i64 g, i64 l, i64 r, i64 k, .slice A2 P.length c2, .slice A5 L.length c5], rowO 3 1 (.slice A5 L.length c5) L.length (ints L), rowO 3 1 (.slice A2 P.length c2) P.length (ints P), Ass.blk (w.heap.size + 1) 24 [i64 0, i64 0, i64 0, i64 0, i64 0, i64 0, .slice none 0 0, .slice none 0 0], Ass.blk w.heap.size 24 [i64 t, i64 s, i64 g, i64 l, i64 r, i64 k, .slice (some ⟨pb, po, none⟩) P.length pc, .slice (some ⟨lb, lo, none⟩) L.length lc]] w6 from by simp only [Nat.zero_add, List.nil_append, List.set_cons_succ, List.set_cons_zero] at hs; exact hs)
 clear hs
 obtain ⟨_, ⟨hb3, _⟩, _⟩ := St.get HS.out
 obtain ⟨_, ⟨hb2, _⟩, _⟩ := St.get (St.pick HS.out 3 (by simp))
 have q3 := hb3.k8
 have q2 := hb2.k8
 clear hb2 hb3
 go_wp2_with fail
 have hs := St.pick HS.out 3 (by simp)
 have hs := St.tr hs (fun R hr => blk_store hr 0 (i64 t))
 have hs := St.tr hs (fun R hr => blk_store hr 1 (i64 s))
 have hs := St.tr hs (fun R hr => blk_store hr 2 (i64 g))
 have hs := St.tr hs (fun R hr => blk_store hr 3 (i64 l))
 have hs := St.tr hs (fun R hr => blk_store hr 4 (i64 r))
 have hs := St.tr hs (fun R hr => blk_store hr 5 (i64 k))
 have hs := St.tr hs (fun R hr => blk_store hr 6 (.slice A2 P.length c2))
 have hs := St.tr hs (fun R hr => blk_store hr 7 (.slice A5 L.length c5))
 have hs := St.drop (St.drop (St.drop (St.perm hs (perm5T _ _ _ _ _))))
 have hb := (St.get (St.pick HS.out 3 (by simp))).choose_spec.1.1
 have HF := hid (show Blk (((((((((w6).setCell ⟨w.heap.size + 1, 0, none⟩ (i64 t)).setCell ⟨w.heap.size + 1, 1, none⟩ (i64 s)).setCell ⟨w.heap.size + 1, 2, none⟩ (i64 g)).setCell ⟨w.heap.size + 1, 3, none⟩ (i64 l)).setCell ⟨w.heap.size + 1, 4, none⟩ (i64 r)).setCell ⟨w.heap.size + 1, 5, none⟩ (i64 k)).setCell ⟨w.heap.size + 1, 6, none⟩ (.slice A2 P.length c2)).setCell ⟨w.heap.size + 1, 7, none⟩ (.slice A5 L.length c5)) (w.heap.size + 1) 24 [i64 t, i64 s, i64 g, i64 l, i64 r, i64 k, .slice A2 P.length c2, .slice A5 L.length c5] from ((((((((hb.set 0 _).set 1 _).set 2 _).set 3 _).set 4 _).set 5 _).set 6 _).set 7 _))
 have HSF := hid (St.out hs)
 clear hs hb q2 q3 HS
 generalize ((((((((w6).setCell ⟨w.heap.size + 1, 0, none⟩ (i64 t)).setCell ⟨w.heap.size + 1, 1, none⟩ (i64 s)).setCell ⟨w.heap.size + 1, 2, none⟩ (i64 g)).setCell ⟨w.heap.size + 1, 3, none⟩ (i64 l)).setCell ⟨w.heap.size + 1, 4, none⟩ (i64 r)).setCell ⟨w.heap.size + 1, 5, none⟩ (i64 k)).setCell ⟨w.heap.size + 1, 6, none⟩ (.slice A2 P.length c2)).setCell ⟨w.heap.size + 1, 7, none⟩ (.slice A5 L.length c5) = w7 at *
 have qF := HF.out.k8
 exact bodyPost_ret (v := .agg #[i64 t, i64 s, i64 g, i64 l, i64 r, i64 k, .slice A2 P.length c2, .slice A5 L.length c5]) (by simp [results, Tryz.results44, go_sem, qF]) rfl ⟨(A2, c2, A5, c5), rfl, HSF.out⟩
end Go.Proofs.YthaceckccobgeaaGreat

namespace Go.Proofs.YthaceckccobgeaaGreat
open Go.RowKit
set_option linter.unusedVariables false
set_option linter.unusedSimpArgs false
set_option maxRecDepth 100000
set_option maxHeartbeats 400000 in
theorem ref10_TurnN (v st : Int) (w : World) (hs : 0 ≤ st ∧ st ≤ 3) : Calls Tryz.prog 55 #[i64 v, i64 st] w (fun e w' => e = .returned (.tuple #[i64 (pNext6 v st), .bool true]) ∧ w = w') := by
 have HV := hid (ref1_Next v st w (by omega))
 have g1 : decide (st < 0) = false := decide_eq_false (by omega)
 have g2 : decide (3 < st) = false := decide_eq_false (by omega)
 go_enter Tryz.func55, Tryz.ntmps55
 go_wp2_with fail
 refine HV.out.mono ?_
 rintro e w1 ⟨rfl, rfl⟩
 go_wp2_with fail
 go_ret2
 exact ⟨rfl, rfl⟩
set_option maxHeartbeats 400000 in
theorem ref10_Body (nd : Nat) (n : Int) (w : World) (h1 : nd < 12) (h2 : 1 ≤ n ∧ n ≤ 1048576) : Calls Tryz.prog 58 #[i64 (nd : Int), i64 n] w (fun e w' => e = .returned (.tuple #[i64 ((nd : Int) * 2097152 + n), .bool true]) ∧ w = w') := by
 have g1 : decide ((nd : Int) < 0) = false := decide_eq_false (by omega)
 have g2 : decide (12 ≤ (nd : Int)) = false := decide_eq_false (by omega)
 have g3 : decide (n < 1) = false := decide_eq_false (by omega)
 have g4 : decide (1048576 < n) = false := decide_eq_false (by omega)
 have y1 : IntKind.i64.wrap ((nd : Int) * 2097152) = (nd : Int) * 2097152 := IntWalk.i64_in _ (by omega)
 have y2 : IntKind.i64.wrap ((nd : Int) * 2097152 + n) = (nd : Int) * 2097152 + n := IntWalk.i64_in _ (by omega)
 go_enter Tryz.func58, Tryz.ntmps58
 go_wp2_with fail
 go_ret2
 exact ⟨rfl, rfl⟩
set_option maxHeartbeats 400000 in
theorem ref10_Handle (k : Nat) (v : Int) (w : World) (h1 : k < 16) : Calls Tryz.prog 99 #[i64 (k : Int), i64 v] w (fun e w' => e = .returned (.tuple #[i64 (hd16 k v), .bool true]) ∧ w = w') := by
 have g1 : decide ((k : Int) < 0) = false := decide_eq_false (by omega)
 have g2 : decide (16 ≤ (k : Int)) = false := decide_eq_false (by omega)
 have HV := hid (ref1_Version v w)
 unfold hd16
 have hb : 0 ≤ v % 18446744073709551616 / 4294967296 ∧ v % 18446744073709551616 / 4294967296 < 4294967296 := by omega
 generalize v % 18446744073709551616 / 4294967296 = z at *
 have y1 : IntKind.i64.wrap (z * 16) = z * 16 := IntWalk.i64_in _ (by omega)
 have y2 : IntKind.i64.wrap (z * 16 + (k : Int)) = z * 16 + (k : Int) := IntWalk.i64_in _ (by omega)
 go_enter Tryz.func99, Tryz.ntmps99
 go_wp2_with fail
 refine HV.out.mono ?_
 rintro e w1 ⟨rfl, rfl⟩
 go_wp2_with fail
 go_ret2
 exact ⟨rfl, rfl⟩
def pathF (P : List Int) : Nat → Nat → List Nat
 | 0, _ => []
 | f + 1, v => v :: (if 0 ≤ rd P v then pathF P f (rd P v).toNat else [])
def pathN (P : List Int) (v : Nat) : List Nat := pathF P (v + 1) v
def ParOK (P : List Int) : Prop := ∀ i, i < P.length → -1 ≤ rd P i ∧ rd P i < i
theorem pathF_more {P : List Int} (h : ParOK P) : ∀ (v f : Nat), v < P.length → v + 1 ≤ f → pathF P f v = pathF P (v + 1) v := by
 intro v
 induction v using Nat.strongRecOn with
 | ind v ih =>
  intro f hv hf
  obtain ⟨f, rfl⟩ : ∃ g, f = g + 1 := ⟨f - 1, by omega⟩
  have hp := h v hv
  simp only [pathF]
  split
  · rename_i h0
    rw [ih (rd P v).toNat (by omega) f (by omega) (by omega), ih (rd P v).toNat (by omega) v (by omega) (by omega)]
  · rfl
theorem pathN_eq {P : List Int} (h : ParOK P) {v : Nat} (hv : v < P.length) : pathN P v = v :: (if 0 ≤ rd P v then pathN P (rd P v).toNat else []) := by
 have hp := h v hv
 show v :: (if 0 ≤ rd P v then pathF P v (rd P v).toNat else []) = _
 by_cases h0 : 0 ≤ rd P v
 · rw [if_pos h0, if_pos h0, pathF_more h (rd P v).toNat v (by omega) (by omega)]
   rfl
 · rw [if_neg h0, if_neg h0]
theorem pathN_mem {P : List Int} (h : ParOK P) : ∀ (v : Nat), v < P.length → (∀ u ∈ pathN P v, u ≤ v) ∧ 1 ≤ (pathN P v).length ∧ (pathN P v).length ≤ v + 1 := by
 intro v
 induction v using Nat.strongRecOn with
 | ind v ih =>
  intro hv
  have hp := h v hv
  rw [pathN_eq h hv]
  split
  · rename_i h0
    obtain ⟨a1, a2, a3⟩ := ih (rd P v).toNat (by omega) (by omega)
    refine ⟨fun u hu => ?_, by simp, by simp; omega⟩
    rcases List.mem_cons.1 hu with rfl | hu
    · exact Nat.le_refl _
    · have := a1 u hu; omega
  · exact ⟨fun u hu => by simp at hu; omega, by simp, by simp⟩
def nats (l : List Nat) : List Int := l.map (fun (x : Nat) => (x : Int))
theorem nats_snoc (l : List Nat) (v : Nat) : nats (l ++ [v]) = nats l ++ [(v : Int)] := by simp [nats]
theorem ints_snocT (l : List Int) (x : Int) : ints (l ++ [x]) = ints l ++ [i64 x] := by simp [ints]
theorem nw_one {p : Ass} {w w' : World} (h : Nw (stars [p]) w w') : Nw p w w' := by
 obtain ⟨U, ⟨R, V, h1, h2, h3, h4⟩, hk, hz⟩ := h
 exact ⟨R, h1, hk, fun k hr => hz k ((h4 k).2 (Or.inl hr))⟩
set_option maxHeartbeats 2000000 in
theorem ref_Path (t s g l r k : Int) (P : List Int) (pb po pc : Nat) (LA : Option Addr) (ln lc : Nat) (v : Nat) (w : World) (hp : P.length ≤ 1000) (hP : ∀ i, i < P.length → w.cell? ⟨pb, po + i, none⟩ = some (i64 (rd P i))) (ho : ParOK P) (hv : v < P.length) :
 Calls Tryz.prog 45 #[.agg #[i64 t, i64 s, i64 g, i64 l, i64 r, i64 k, .slice (some ⟨pb, po, none⟩) P.length pc, .slice LA ln lc], i64 (v : Int)] w fun e w' => ∃ x : Option Addr × Nat, e = .returned (.slice x.1 (pathN P v).length x.2) ∧ Nw (rowO 3 1 (.slice x.1 (pathN P v).length x.2) (pathN P v).length (ints (nats (pathN P v)))) w w' := by
 obtain ⟨i0, hti, hz0, hz1, hz2⟩ := info_parts info_int
 have HI := hid hti
 have HP := hid hP
 have HO := hid ho
 have hpz : pb < w.heap.size := by have h := World.block_lt_of_cell? _ _ (hP v hv); simpa using h
 clear hti hP ho
 have g1 : decide ((v : Int) < 0) = false := decide_eq_false (by omega)
 have g2 : (P.length ≤ v) = False := eq_false (by omega)
 go_enter Tryz.func45, Tryz.ntmps45
 have HB := hid (show Blk (w.alloc (.cells #[i64 t, i64 s, i64 g, i64 l, i64 r, i64 k, .slice (some ⟨pb, po, none⟩) P.length pc, .slice LA ln lc] 24)) w.heap.size 24 [i64 t, i64 s, i64 g, i64 l, i64 r, i64 k, .slice (some ⟨pb, po, none⟩) P.length pc, .slice LA ln lc] from Blk.made rfl rfl)
 have qB := HB.out.k8
 go_wp2_with fail
 have HS := hid (St.nw (St.nw (St.nil (Keep.refl _ w)) (Nw.blk HB.out ((Keep.refl _ _).alloc _) (Nat.le_refl _))) (rowO_nil 3 1 _))
 clear HB qB g1 g2
 generalize w.alloc (.cells #[i64 t, i64 s, i64 g, i64 l, i64 r, i64 k, .slice (some ⟨pb, po, none⟩) P.length pc, .slice LA ln lc] 24) = w1 at *
 go_loopw [5, 6] (fun v5 v6 wr => ∃ (z : Int) (dn : List Nat) (A : Option Addr) (c : Nat), v6 = .int .i64 z ∧ v5 = .slice A dn.length c ∧ dn ++ (if 0 ≤ z then pathN P z.toNat else []) = pathN P v ∧ -1 ≤ z ∧ z < P.length ∧ dn.length ≤ 1000 - (z + 1).toNat ∧ St w [rowO 3 1 (.slice A dn.length c) dn.length (ints (nats dn)), Ass.blk w.heap.size 24 [i64 t, i64 s, i64 g, i64 l, i64 r, i64 k, .slice (some ⟨pb, po, none⟩) P.length pc, .slice LA ln lc]] wr) (fun _ v _ => (intOf v + 1).toNat)
 case atStart => exact ⟨(v : Int), [], none, 0, rfl, rfl, by rw [if_pos (by omega)]; simp, by omega, by omega, by simp, HS.out⟩
 case round =>
  obtain ⟨z, dn, A, c, rfl, rfl, hpt, hz0', hzl, hdl, hs⟩ := hrel
  have HPT := hid hpt
  clear HS
  have HS := hid hs
  clear hpt hs
  by_cases h0 : 0 ≤ z
  · obtain ⟨u, rfl⟩ := Int.eq_ofNat_of_zero_le h0
    have hul : u < P.length := by omega
    obtain ⟨_, ⟨ho, _⟩, _⟩ := St.get HS.out
    have HR := hid ho
    obtain ⟨_, ⟨hb, _⟩, _⟩ := St.get (St.pick HS.out 1 (by simp))
    have qb := hb.k8
    clear ho hb
    have hdb : dn.length ≤ 1000 := by omega
    obtain ⟨n0, hn0⟩ : ∃ n, n = dn.length := ⟨_, rfl⟩
    obtain ⟨xs0, hxs⟩ : ∃ x, x = ints (nats dn) := ⟨_, rfl⟩
    rw [← hn0, ← hxs] at HR
    rw [← hn0]
    have HN0 := hid hn0
    have HXS := hid hxs
    have hnb : n0 ≤ 1000 := by omega
    clear hn0 hxs
    go_upto_region 6 with (at_builtin; refine wpl_append_own ?a1 (.tmp 24) (.tmp 26) 22 ?a2 (0) 3 i0 ?z 1 8 ?a3 ?a4 ?a5 ?a6 ?a7 ?a8 ?a9 (.slice A n0 c) (n0) (xs0) ?a10 ?hown (⟨wr.heap.size, 0, none⟩) (1) (1) ([i64 (u : Int)]) ?a11 ?a12 ?hnews ?hone ?h63 ?hby ?hbase ?_; (case a1 => rfl); (case a2 => rfl); (case a3 => exact Tryz.underlying22); (case a4 => exact HI.out); (case a5 => exact hz0); (case a6 => exact hz1); (case a7 => exact hz2); (case a8 => rfl); (case a9 => decide); (case a10 => rfl); (case a11 => rfl); (case a12 => rfl); (case hown => exact ownsRow_keep (S := fun _ => False) HR.out (by repeat (with_reducible first | exact Keep.refl _ _ | apply Keep.alloc | apply Keep.drew)) (fun _ _ h => h)); (case h63 => unfold maxLen; omega); (case hby => omega); (case hnews => exact news_at (Blk.made (by simp) rfl)); (case hone => simp [Value.oneCell']); (case hbase => omega); intro A9 c9 w9 hown9 hg9 hsl9; have HS9 := hid (St.tr HS.out (fun R hr => rowO_app (by rw [← HN0.out, ← HXS.out] at hr; exact hr) ((Keep.refl _ _).alloc _) hown9 hg9 hsl9.1)); clear hown9 hg9 hsl9 qb; obtain ⟨_, ⟨hb, _⟩, _⟩ := St.get (St.pick HS9.out 1 (by simp)); have qb := hb.k8; have hcl := (cell_old HS9.out.k hpz (fun h => h) _).trans (HP.out u hul); have hlz := Nat.lt_of_lt_of_le hpz HS9.out.k.size; clear hb HS HR)
    go_wp2_with fail
    go_roundw
    case rel =>
     refine ⟨rd P u, dn ++ [u], A9, c9, by go_num, by rw [List.length_append, HN0.out]; rfl, ?_, ?_, ?_, ?_, ?_⟩
     · have e := HPT.out
       rw [if_pos h0, Int.toNat_natCast, pathN_eq HO.out hul] at e
       rw [List.append_assoc]
       exact e
     · exact (HO.out u hul).1
     · have := (HO.out u hul).2; omega
     · have h1 := HO.out u hul
       rw [List.length_append, List.length_singleton]
       omega
     · have h := HS9.out
       have e1 : (dn ++ [u]).length = n0 + 1 := by rw [List.length_append, HN0.out]; rfl
       have e2 : ints (nats (dn ++ [u])) = xs0 ++ [i64 (u : Int)] := by rw [nats_snoc, ints_snocT, HXS.out]
       rw [e1, e2]
       exact h
    case measure => have h1 := HO.out u hul; simp [intOf]; omega
  · go_wp2_with fail
    go_ret
    have e := HPT.out
    rw [if_neg (by omega), List.append_nil] at e
    rw [← e]
    exact ⟨A, c, rfl, (St.out (St.drop (St.pick HS.out 1 (by simp)))) |> nw_one⟩
end Go.Proofs.YthaceckccobgeaaGreat

namespace Go.Proofs.YthaceckccobgeaaGreat
open Go.RowKit
set_option linter.unusedVariables false
set_option linter.unusedSimpArgs false
def ParR (P : List Int) : Prop := ∀ i, i < P.length → (i = 0 → rd P i = -1) ∧ (0 < i → 0 ≤ rd P i ∧ rd P i < i)
theorem ParR.ok {P : List Int} (h : ParR P) : ParOK P := fun i hi => by
 rcases Nat.eq_zero_or_pos i with e | e
 · have := (h i hi).1 e; omega
 · have := (h i hi).2 e; omega
def undP (P : List Int) (a b : Nat) : Bool := decide (b ∈ pathN P a)
section
variable {P : List Int}
theorem path_zero (h : ParR P) (h0 : 0 < P.length) : pathN P 0 = [0] := by
 rw [pathN_eq h.ok h0, (h 0 h0).1 rfl]
 simp
theorem path_succ (h : ParR P) {a : Nat} (ha : a < P.length) (h0 : 0 < a) : pathN P a = a :: pathN P (rd P a).toNat := by
 rw [pathN_eq h.ok ha, if_pos ((h a ha).2 h0).1]
theorem path_par (h : ParR P) {a : Nat} (ha : a < P.length) (h0 : 0 < a) : ∃ b, b < a ∧ rd P a = (b : Int) ∧ pathN P a = a :: pathN P b := by
 have h1 := (h a ha).2 h0
 refine ⟨(rd P a).toNat, by omega, by omega, path_succ h ha h0⟩
theorem path_le (h : ParR P) {a b : Nat} (ha : a < P.length) (hb : b ∈ pathN P a) : b ≤ a := (pathN_mem h.ok a ha).1 b hb
def sumF (f : Nat → Int) : Nat → Int
 | 0 => 0
 | n + 1 => sumF f n + f n
theorem sumF_congr {f g : Nat → Int} : ∀ n, (∀ i, i < n → f i = g i) → sumF f n = sumF g n
 | 0, _ => rfl
 | n + 1, h => by rw [sumF, sumF, sumF_congr n (fun i hi => h i (by omega)), h n (by omega)]
theorem sumF_add (f g : Nat → Int) : ∀ n, sumF (fun i => f i + g i) n = sumF f n + sumF g n
 | 0 => rfl
 | n + 1 => by rw [sumF, sumF, sumF, sumF_add f g n]; omega
theorem sumF_zero : ∀ n, sumF (fun _ => 0) n = 0
 | 0 => rfl
 | n + 1 => by rw [sumF, sumF_zero n]; rfl
theorem sumF_one (a : Nat) (x : Int) : ∀ n, sumF (fun i => if i = a then x else 0) n = if a < n then x else 0
 | 0 => by simp [sumF]
 | n + 1 => by
  rw [sumF, sumF_one a x n]
  by_cases e : n = a
  · subst e; simp
  · by_cases h : a < n
    · rw [if_pos h, if_neg e, if_pos (by omega)]; omega
    · rw [if_neg h, if_neg e, if_neg (by omega)]; rfl
end
def bodyOK (a b : Int) : Bool := decide (0 ≤ a ∧ a < 12 ∧ 1 ≤ b ∧ b ≤ 1048576)
def lvB (pn : Nat) (W : List Int) (at_ : Nat) : Bool := bodyOK (rd W (at_ + 1) / 2097152) (rd W (at_ + 1) % 2097152) && decide (st10 (rd W at_) = 2) && decide (rd W (at_ + 1) / 2097152 < pn)
def lvV (pn : Nat) (W : List Int) (at_ : Nat) : Nat := if lvB pn W at_ then (rd W (at_ + 1) / 2097152).toNat else 0
def lvN (pn : Nat) (W : List Int) (at_ : Nat) : Int := if lvB pn W at_ then rd W (at_ + 1) % 2097152 else 0
def useT (P W : List Int) (q v k : Nat) : Int := if lvB P.length W (q + 2 * k) = true ∧ undP P (lvV P.length W (q + 2 * k)) v = true then lvN P.length W (q + 2 * k) else 0
def usedN (P W : List Int) (q K v : Nat) : Int := sumF (useT P W q v) K
section
variable {P W : List Int} {q K : Nat}
theorem lv_in {pn at_ : Nat} (h : lvB pn W at_ = true) : (lvV pn W at_ : Int) = rd W (at_ + 1) / 2097152 ∧ lvV pn W at_ < pn ∧ 1 ≤ lvN pn W at_ ∧ lvN pn W at_ ≤ 1048576 ∧ st10 (rd W at_) = 2 := by
 have h' := h
 unfold lvB bodyOK at h
 simp only [Bool.and_eq_true, decide_eq_true_eq] at h
 unfold lvV lvN
 rw [if_pos h', if_pos h']
 omega
theorem lvN_bd (pn at_ : Nat) : 0 ≤ lvN pn W at_ ∧ lvN pn W at_ ≤ 1048576 := by
 by_cases h : lvB pn W at_ = true
 · have := lv_in h; omega
 · unfold lvN; rw [if_neg h]; omega
theorem lvV_lt (pn at_ : Nat) (h0 : 0 < pn) : lvV pn W at_ < pn := by
 by_cases h : lvB pn W at_ = true
 · exact (lv_in h).2.1
 · unfold lvV; rw [if_neg h]; exact h0
theorem useT_bd (v k : Nat) : 0 ≤ useT P W q v k ∧ useT P W q v k ≤ 1048576 := by
 unfold useT
 split
 · exact lvN_bd _ _
 · omega
theorem usedN_bd (v : Nat) : ∀ K, 0 ≤ usedN P W q K v ∧ usedN P W q K v ≤ 1048576 * K
 | 0 => by simp [usedN, sumF]
 | K + 1 => by
  have h1 := usedN_bd v K
  have h2 := useT_bd (P := P) (W := W) (q := q) v K
  unfold usedN at *
  rw [sumF]
  push_cast
  omega
end
end Go.Proofs.YthaceckccobgeaaGreat

namespace Go.Proofs.YthaceckccobgeaaGreat
open Go.RowKit
set_option linter.unusedVariables false
set_option linter.unusedSimpArgs false
set_option maxRecDepth 100000
set_option maxHeartbeats 400000 in
theorem slot_known (v : Int) (w : World) : Calls Tryz.prog 104 #[i64 v] w (fun e w' => e = .returned (.bool (decide (0 ≤ v ∧ v ≤ 3))) ∧ w = w') := by
 by_cases h0 : 0 ≤ v
 · have g1 : decide (0 ≤ v) = true := by simpa using h0
   have y : decide (0 ≤ v ∧ v ≤ 3) = decide (v ≤ 3) := by simp [h0]
   rw [y]
   clear y
   go_enter Tryz.func104, Tryz.ntmps104
   go_wp2_with fail
   go_ret
   exact ⟨rfl, rfl⟩
 · have g1 : decide (0 ≤ v) = false := by simpa using h0
   have y : decide (0 ≤ v ∧ v ≤ 3) = false := by simp [h0]
   rw [y]
   clear y
   go_enter Tryz.func104, Tryz.ntmps104
   go_wp2_with fail
   go_ret
   exact ⟨rfl, rfl⟩
set_option maxHeartbeats 400000 in
theorem slot_State (v : Int) (w : World) : Calls Tryz.prog 69 #[i64 v] w (fun e w' => e = .returned (i64 (st10 v)) ∧ w = w') := by
 have hk := slot_known (pVal v) w
 unfold st10
 by_cases hc : 0 ≤ pVal v ∧ pVal v ≤ 3
 · rw [if_pos hc]
   rw [decide_eq_true hc] at hk
   have HK := hid hk
   clear hk hc
   go_enter Tryz.func69, Tryz.ntmps69
   go_wp2_with fail
   refine (pack_Value v _).mono ?_
   rintro e w1 ⟨rfl, rfl⟩
   go_wp2_with fail
   refine HK.out.mono ?_
   rintro e w1 ⟨rfl, rfl⟩
   go_wp2_with fail
   go_ret
   exact ⟨rfl, rfl⟩
 · rw [if_neg hc]
   rw [decide_eq_false hc] at hk
   have HK := hid hk
   clear hk hc
   go_enter Tryz.func69, Tryz.ntmps69
   go_wp2_with fail
   refine (pack_Value v _).mono ?_
   rintro e w1 ⟨rfl, rfl⟩
   go_wp2_with fail
   refine HK.out.mono ?_
   rintro e w1 ⟨rfl, rfl⟩
   go_wp2_with fail
   go_ret
   exact ⟨rfl, rfl⟩
end Go.Proofs.YthaceckccobgeaaGreat

namespace Go.Proofs.YthaceckccobgeaaGreat
open Go.RowKit
set_option linter.unusedVariables false
set_option linter.unusedSimpArgs false
set_option maxRecDepth 100000
set_option maxHeartbeats 1000000 in
theorem slot_right (a b : Int) (w : World) : Calls Tryz.prog 103 #[.agg #[i64 a, i64 b]] w (fun e w' => e = .returned (.bool (bodyOK a b)) ∧ Keep0 w w') := by
 by_cases g1 : 0 ≤ a
 · by_cases g2 : a < 12
   · by_cases g3 : 1 ≤ b
     · by_cases g4 : b ≤ 1048576
       · rw [show bodyOK a b = true from by unfold bodyOK; simp; omega]
         go_enter Tryz.func103, Tryz.ntmps103
         go_wp2_with fail
         go_ret
         exact ⟨rfl, (Keep.refl _ _).alloc _⟩
       · rw [show bodyOK a b = false from by unfold bodyOK; simp; omega]
         go_enter Tryz.func103, Tryz.ntmps103
         go_wp2_with fail
         go_ret
         exact ⟨rfl, (Keep.refl _ _).alloc _⟩
     · rw [show bodyOK a b = false from by unfold bodyOK; simp; omega]
       go_enter Tryz.func103, Tryz.ntmps103
       go_wp2_with fail
       go_ret
       exact ⟨rfl, (Keep.refl _ _).alloc _⟩
   · rw [show bodyOK a b = false from by unfold bodyOK; simp; omega]
     go_enter Tryz.func103, Tryz.ntmps103
     go_wp2_with fail
     go_ret
     exact ⟨rfl, (Keep.refl _ _).alloc _⟩
 · rw [show bodyOK a b = false from by unfold bodyOK; simp; omega]
   go_enter Tryz.func103, Tryz.ntmps103
   go_wp2_with fail
   go_ret
   exact ⟨rfl, (Keep.refl _ _).alloc _⟩
theorem i64_and21 (n : Int) : bits .and .i64 n 2097151 = n % 2097152 := by
 have h127 : (BitVec.ofInt 64 2097151).toNat = 2 ^ 21 - 1 := by decide
 have key : (BitVec.ofInt 64 n &&& BitVec.ofInt 64 2097151).toNat = (n % ((2 ^ 64 : Nat) : Int)).toNat % 2 ^ 21 := by
  rw [BitVec.toNat_and, BitVec.toNat_ofInt, h127, Nat.and_two_pow_sub_one_eq_mod]
 show IntKind.i64.wrap ((BitVec.ofInt 64 n &&& BitVec.ofInt 64 2097151).toNat : Nat) = n % 2097152
 rw [key, IntKind.wrap_i64]
 omega
set_option maxHeartbeats 2000000 in
theorem slot_Of (v : Int) (w : World) : Calls Tryz.prog 68 #[i64 v] w (fun e w' => e = .returned (.tuple (if bodyOK (v / 2097152) (v % 2097152) = true then #[i64 (v / 2097152), i64 (v % 2097152), .bool true] else #[i64 0, i64 0, .bool false])) ∧ Keep0 w w') := by
 have y1 := i64_and21 v
 have HR := hid (fun w1 => slot_right (v / 2097152) (v % 2097152) w1)
 go_enter Tryz.func68, Tryz.ntmps68
 cases hb : bodyOK (v / 2097152) (v % 2097152) with
 | false =>
  rw [hb] at HR
  clear hb
  go_wp2_with fail
  refine (HR.out _).mono ?_
  rintro e w1 ⟨rfl, hk⟩
  have HK1 : Hid (Keep0 w w1) := hid (Keep0.step (by repeat (with_reducible first | exact Keep.refl _ _ | apply Keep.alloc | apply Keep.drewN | apply Keep.drew)) hk)
  clear hk
  go_wp2_with fail
  go_ret3
  exact ⟨rfl, HK1.out⟩
 | true =>
  rw [hb] at HR
  clear hb
  go_wp2_with fail
  have HB := hid (show Blk (w.alloc (.cells #[i64 (v / 2097152), i64 (v % 2097152)] 132)) w.heap.size 132 [i64 (v / 2097152), i64 (v % 2097152)] from Blk.made rfl rfl)
  refine (HR.out _).mono ?_
  rintro e w1 ⟨rfl, hk⟩
  have HK1 : Hid (Keep0 w w1) := hid (Keep0.step (by repeat (with_reducible first | exact Keep.refl _ _ | apply Keep.alloc | apply Keep.drewN | apply Keep.drew)) hk)
  have HB1 := hid (hk.blk HB.out (fun h => h))
  clear hk HB
  go_wp2_with fail
  apply wp_region_text (WI := fun S wx => Keep0 w wx ∧ Blk wx w.heap.size 132 [i64 (v / 2097152), i64 (v % 2097152)]) (by kernel_rfl) (by kernel_rfl)
  case hob =>
   iterate 7
    apply Oblig.cons
    case h =>
     intro S w1 hwi hSi hd hcl
     apply StepOk.intro
     intro K hK
     have qb := hwi.2.k2
     go_simp
     apply hK
     · rfl
     · conv => (lhs; whnf)
     · exact hwi
    simp only [put_lit, put_none]
    try dsimp only [List.set_cons_succ, List.set_cons_zero]
   exact Oblig.nil
  case h0 =>
   exact ⟨HK1.out.drew, HB1.out.drew⟩
  case hend =>
   intro S wx hwi hall
   have HKX := hid hwi.1
   clear hwi hall
   go_wp2_with fail
   go_ret3
   exact ⟨rfl, HKX.out⟩
set_option maxHeartbeats 4000000 in
theorem usage_Live (t g lm r : Int) (s K : Nat) (P : List Int) (pb po pc : Nat) (LA : Option Addr) (ln lc : Nat) (W : List Int) (wb wo wc q k : Nat) (w : World) (hs : 1 ≤ s ∧ s ≤ 8) (hK : K ≤ 100) (h0 : 0 < P.length) (hp : P.length ≤ 1000) (hq : q = P.length * (6 + 2 * s)) (hk : q + 2 * k + 2 ≤ W.length) (hk1 : k ≤ 1000) (hWb : W.length ≤ 1000000) (hW : ∀ i, i < W.length → w.cell? ⟨wb, wo + i, none⟩ = some (i64 (rd W i))) :
 Calls Tryz.prog 20 #[.agg #[i64 t, i64 (s : Int), i64 g, i64 lm, i64 r, i64 (K : Int), .slice (some ⟨pb, po, none⟩) P.length pc, .slice LA ln lc], .slice (some ⟨wb, wo, none⟩) W.length wc, i64 (k : Int)] w (Ret (.tuple #[i64 (lvV P.length W (q + 2 * k) : Nat), i64 (lvN P.length W (q + 2 * k)), .bool (lvB P.length W (q + 2 * k))]) w) := by
 have HW := hid hW
 clear hW
 have hqq : (q : Int) = P.length * (6 + 2 * (s : Int)) := by rw [hq]; push_cast; rfl
 clear hq
 have hqk : ((q + 2 * k : Nat) : Int) = P.length * (6 + 2 * (s : Int)) + 2 * (k : Int) := by push_cast; rw [hqq]
 have HTK := hid (fun w' => plan_Ticket t (s : Int) g lm r (K : Int) (some ⟨pb, po, none⟩) P.length pc LA ln lc (k : Int) w' (by omega) (by omega) (by omega) (by omega) hp)
 rw [← hqk] at HTK
 have hX0 : q + 2 * k < W.length := by omega
 have hX1 : q + 2 * k + 1 < W.length := by omega
 clear hqk hqq hk hk1
 generalize q + 2 * k = at_ at *
 have HC0 := hid (HW.out at_ hX0)
 have HC1 := hid (HW.out (at_ + 1) hX1)
 have hwz : wb < w.heap.size := by have := World.block_lt_of_cell? _ _ HC0.out; simpa using this
 have hab : at_ ≤ 1000000 := by omega
 clear HW hs
 have y1 : IntKind.i64.wrap ((at_ : Int) + 1) = ((at_ + 1 : Nat) : Int) := by rw [IntWalk.i64_in _ (by omega)]; push_cast; rfl
 have hlv : ∃ a b : Int, a = rd W (at_ + 1) / 2097152 ∧ b = rd W (at_ + 1) % 2097152 ∧ lvB P.length W at_ = (bodyOK a b && decide (st10 (rd W at_) = 2) && decide (a < P.length)) ∧ (lvV P.length W at_ : Int) = (if lvB P.length W at_ = true then a else 0) ∧ lvN P.length W at_ = (if lvB P.length W at_ = true then b else 0) := by
  refine ⟨_, _, rfl, rfl, rfl, ?_, rfl⟩
  by_cases h : lvB P.length W at_ = true
  · rw [if_pos h]; exact (lv_in h).1
  · rw [if_neg h]; unfold lvV; rw [if_neg h]; rfl
 obtain ⟨a, b, ha, hb, e1, e2, e3⟩ := hlv
 have HOF := hid (fun w' => slot_Of (rd W (at_ + 1)) w')
 have HST := hid (fun w' => slot_State (rd W at_) w')
 rw [← ha, ← hb] at HOF
 rw [e2, e3, e1]
 clear ha hb e1 e2 e3
 generalize rd W at_ = x0 at *
 generalize rd W (at_ + 1) = x1 at *
 generalize st10 x0 = st at *
 obtain ⟨lb, hlb⟩ : ∃ lb, lb = (bodyOK a b && decide (st = 2) && decide (a < P.length)) := ⟨_, rfl⟩
 obtain ⟨va, hva⟩ : ∃ va, va = (if lb = true then a else 0) := ⟨_, rfl⟩
 obtain ⟨vb, hvb⟩ : ∃ vb, vb = (if lb = true then b else 0) := ⟨_, rfl⟩
 rw [← hlb, ← hva, ← hvb]
 have HLB := hid hlb
 have HVA := hid hva
 have HVB := hid hvb
 clear hlb hva hvb
 have hbz : bodyOK a b = true → 0 ≤ a := fun h => by unfold bodyOK at h; simp at h; omega
 go_enter Tryz.func20, Tryz.ntmps20
 have HCB := hid (show Blk (w.alloc (.cells #[i64 t, i64 (s : Int), i64 g, i64 lm, i64 r, i64 (K : Int), .slice (some ⟨pb, po, none⟩) P.length pc, .slice LA ln lc] 24)) w.heap.size 24 [i64 t, i64 (s : Int), i64 g, i64 lm, i64 r, i64 (K : Int), .slice (some ⟨pb, po, none⟩) P.length pc, .slice LA ln lc] from Blk.made rfl rfl)
 have HK0 := hid (show Keep0 w (w.alloc (.cells #[i64 t, i64 (s : Int), i64 g, i64 lm, i64 r, i64 (K : Int), .slice (some ⟨pb, po, none⟩) P.length pc, .slice LA ln lc] 24)) from (Keep.refl _ _).alloc _)
 go_wp2_with fail
 refine (HTK.out _).mono ?_
 rintro e w1 ⟨rfl, hk⟩
 have HK1 : Hid (Keep0 w w1) := hid (Keep0.step HK0.out hk)
 have HCB1 := hid (hk.blk HCB.out (fun h => h))
 have c1 := (cell_old HK1.out hwz (fun h => h) _).trans HC1.out
 have qb := HCB1.out.k8
 have hlz := Nat.lt_of_lt_of_le hwz HK1.out.size
 clear hk HCB HK0 HTK
 go_wp2_with fail
 refine (HOF.out _).mono ?_
 rintro e w2 ⟨rfl, hk⟩
 have HK2 : Hid (Keep0 w w2) := hid (Keep0.step HK1.out hk)
 have HCB2 := hid (hk.blk HCB1.out (fun h => h))
 have c2 := (cell_old HK2.out hwz (fun h => h) _).trans HC0.out
 clear qb c1 hlz hk HCB1 HK1
 have qb := HCB2.out.k8
 have hlz := Nat.lt_of_lt_of_le hwz HK2.out.size
 cases hbo : bodyOK a b with
 | false =>
  rw [hbo] at HLB
  obtain rfl : lb = false := HLB.out.trans (by simp)
  obtain rfl := HVA.out
  obtain rfl := HVB.out
  try simp only [Bool.false_eq_true, if_false, if_true]
  clear HLB HVA HVB
  go_wp2_with fail
  go_ret3
  exact ⟨rfl, HK2.out⟩
 | true =>
  have hb0 := hbz hbo
  rw [hbo] at HLB
  clear hbz hbo
  simp only [if_true]
  by_cases hst : st = 2
  · subst hst
    by_cases hlt : a < P.length
    · have g : decide ((P.length : Int) ≤ a) = false := decide_eq_false (by omega)
      obtain rfl : lb = true := HLB.out.trans (by simp; omega)
      obtain rfl := HVA.out
      obtain rfl := HVB.out
      try simp only [Bool.false_eq_true, if_false, if_true]
      clear HLB HVA HVB
      go_wp2_with fail
      refine (HST.out _).mono ?_
      rintro e w3 ⟨rfl, rfl⟩
      go_wp2_with fail
      go_ret3
      exact ⟨rfl, HK2.out⟩
    · have g : decide ((P.length : Int) ≤ a) = true := decide_eq_true (by omega)
      obtain rfl : lb = false := HLB.out.trans (by simp; omega)
      obtain rfl := HVA.out
      obtain rfl := HVB.out
      try simp only [Bool.false_eq_true, if_false, if_true]
      clear HLB HVA HVB
      go_wp2_with fail
      refine (HST.out _).mono ?_
      rintro e w3 ⟨rfl, rfl⟩
      go_wp2_with fail
      go_ret3
      exact ⟨rfl, HK2.out⟩
  · have g : decide (st = 2) = false := decide_eq_false hst
    have g2 : (st == 2) = false := beq_eq_false_iff_ne.2 hst
    obtain rfl : lb = false := HLB.out.trans (by simp; omega)
    obtain rfl := HVA.out
    obtain rfl := HVB.out
    try simp only [Bool.false_eq_true, if_false, if_true]
    clear HLB HVA HVB
    go_wp2_with fail
    refine (HST.out _).mono ?_
    rintro e w3 ⟨rfl, rfl⟩
    go_wp2_with fail
    go_ret3
    exact ⟨rfl, HK2.out⟩
end Go.Proofs.YthaceckccobgeaaGreat

namespace Go.Proofs.YthaceckccobgeaaGreat
open Go.RowKit
set_option linter.unusedVariables false
set_option linter.unusedSimpArgs false
def updv (g : Nat → Value) (i : Nat) (u : Value) : Nat → Value := fun j => if j = i then u else g j
theorem updv_same (g : Nat → Value) (i : Nat) (u : Value) : updv g i u i = u := by simp [updv]
theorem updv_ne {g : Nat → Value} {i j : Nat} {u : Value} (h : j ≠ i) : updv g i u j = g j := by simp [updv, h]
def StepG (P : Program) (ops : Array Oper) (o : Oper) (c : Act) (w : World) (R : Value → World → Prop) : Prop :=
 if Region.wanted o (yielded ops c.tmps) = true then o.wp P c w (fun a' w' => a'.defers = c.defers ∧ R (slotOf a' o.dst) w') (fun _ _ _ => False) else R undef w
theorem StepOk.toG {P : Program} {ops : Array Oper} {o : Oper} {c : Act} {w : World} {v : Value} {R : World → Prop} (h : StepOk P ops o c w v R) : StepG P ops o c w (fun v' w' => v' = v ∧ R w') := by
 unfold StepOk at h
 unfold StepG
 split
 · rename_i hw
   rw [if_pos hw] at h
   exact h
 · rename_i hw
   rw [if_neg hw] at h
   exact ⟨h.1.symm, h.2⟩
theorem StepG.intro {P : Program} {ops : Array Oper} {o : Oper} {c : Act} {w : World} {R : Value → World → Prop}
 (h : ∀ K : Act → World → Prop, (∀ a' w', a'.defers = c.defers → R (slotOf a' o.dst) w' → K a' w') → if Region.wanted o (yielded ops c.tmps) = true then o.wp P c w K (fun _ _ _ => False) else K (c.put o.dst undef) w) : StepG P ops o c w R := by
 have hh := h (fun a' w' => a'.defers = c.defers ∧ R (slotOf a' o.dst) w') (fun a' w' h1 h2 => ⟨h1, h2⟩)
 unfold StepG
 by_cases hw : Region.wanted o (yielded ops c.tmps) = true
 · rw [if_pos hw] at hh ⊢
   exact hh
 · rw [if_neg hw] at hh ⊢
   have e : slotOf (c.put o.dst undef) o.dst = undef := by
    cases hd : o.dst with
    | none => rfl
    | some d =>
     by_cases hlt : d < c.tmps.size
     · simp [slotOf, Act.put, Array.getD, hlt]
     · simp [slotOf, Act.put, Array.getD, hlt]
   rw [← e]
   exact hh.2
inductive ObligF (P : Program) (ops : Array Oper) (WI : (Nat → Bool) → (Nat → Value) → World → Prop) : List Oper → Nat → ((Nat → Value) → Act) → List (Option Value) → ((Nat → Value) → Act) → Prop
 | nil {i : Nat} {c : (Nat → Value) → Act} : ObligF P ops WI [] i c [] c
 | fixed {o : Oper} {os : List Oper} {i : Nat} {c cf : (Nat → Value) → Act} {vs : List (Option Value)} (v : Value)
  (h : ∀ S g w, WI S g w → S i = false → depsOk S o → closedS ops S → StepOk P ops o (c g) w v (WI (upd S i) g))
  (rest : ObligF P ops WI os (i + 1) (fun g => (c g).put o.dst v) vs cf) : ObligF P ops WI (o :: os) i c (some v :: vs) cf
 | free {o : Oper} {os : List Oper} {i : Nat} {c cf : (Nat → Value) → Act} {vs : List (Option Value)}
  (h : ∀ S g w, WI S g w → S i = false → depsOk S o → closedS ops S → StepG P ops o (c g) w (fun u w' => WI (upd S i) (updv g i u) w'))
  (rest : ObligF P ops WI os (i + 1) (fun g => (c g).put o.dst (g i)) vs cf) : ObligF P ops WI (o :: os) i c (none :: vs) cf
section
variable {P : Program} {ops : Array Oper} {Q : Exit → Act → World → Prop}
theorem upon_moveG {o : Oper} {a c : Act} {w : World} {R : Value → World → Prop} (hsz : a.tmps.size = c.tmps.size) (he : execOp a.eval o = execOp c.eval o)
 (h : o.wp P c w (fun a' w' => a'.defers = c.defers ∧ R (slotOf a' o.dst) w') (fun _ _ _ => False)) : o.wp P a w (fun a' w' => ∃ v, a' = a.put o.dst v ∧ R v w') Q := by
 have key : ∀ v' w', ((c.put o.dst v').defers = c.defers ∧ R (slotOf (c.put o.dst v') o.dst) w') → ∃ v, a.put o.dst v' = a.put o.dst v ∧ R v w' := by
  rintro v' w' ⟨_, hr⟩
  refine ⟨_, ?_, hr⟩
  cases hd : o.dst with
  | none => rfl
  | some d =>
   by_cases hlt : d < c.tmps.size
   · have : slotOf (c.put (some d) v') (some d) = v' := by simp [slotOf, Act.put, hlt, Array.getD]
     rw [this]
   · have e1 : ∀ u, a.tmps.setIfInBounds d u = a.tmps := fun u => Array.setIfInBounds_eq_of_size_le (hsz ▸ Nat.le_of_not_lt hlt)
     simp [Act.put, e1]
 unfold Oper.wp at *
 rw [he]
 generalize (execOp c.eval o).run P w = r at *
 cases r with
 | ok n w' =>
  cases n with
  | value v' => exact key _ _ h
  | skip => exact key _ _ h
  | defer d =>
   have h1 := h.1
   exfalso
   cases hdst : o.dst <;> simp [Act.put, hdst] at h1
  | enter f args =>
   refine Calls.mono h fun e w'' hh => ?_
   cases e with
   | returned u => exact key _ _ hh
   | panicked ch => exact hh.elim
   | outgrown => exact absurd hh (fun ⟨_, _, x⟩ => x)
  | row r args => exact Rows.mono h fun u w'' hh => key _ _ hh
  | _ => exact h.elim
 | halt x w' => cases x <;> first | exact h.elim | exact absurd h id
structure AtF (ops : Array Oper) (a0 : Act) (val : Nat → Value) (S : Nat → Bool) (a : Act) : Prop where
 df : a.defers = a0.defers
 sz : a.tmps.size = a0.tmps.size
 own : ∀ (i : Nat) (o : Oper) (d : Tmp), ops[i]? = some o → o.dst = some d → S i = true → d < a0.tmps.size → a.tmps[d]? = some (val i)
 old : ∀ (t : Tmp), (∀ (i : Nat) (o : Oper), ops[i]? = some o → S i = true → o.dst ≠ some t) → a.tmps[t]? = a0.tmps[t]?
theorem AtF.start (a0 : Act) (val : Nat → Value) : AtF ops a0 val (fun _ => false) a0 := ⟨rfl, rfl, fun _ _ _ _ _ h => (by cases h), fun _ _ => rfl⟩
theorem AtF.congr {a0 a : Act} {val val' : Nat → Value} {S : Nat → Bool} (h : AtF ops a0 val S a) (he : ∀ j, S j = true → val j = val' j) : AtF ops a0 val' S a :=
 ⟨h.df, h.sz, fun i o d hi hd hS hlt => by rw [← he i hS]; exact h.own i o d hi hd hS hlt, h.old⟩
theorem AtF.step (hok : regOk ops = true) {a0 a : Act} {val : Nat → Value} {S : Nat → Bool} (h : AtF ops a0 val S a) {i : Nat} {o : Oper} (ho : ops[i]? = some o) {v : Value} (hv : val i = v) : AtF ops a0 val (upd S i) (a.put o.dst v) := by
 cases hd : o.dst with
 | none =>
  refine ⟨h.df, h.sz, fun j o' d hj hdj hS hlt => ?_, fun t ht => h.old t fun j o' hj hS => ht j o' hj (by unfold upd; split <;> simp_all)⟩
  by_cases e : j = i
  · subst e
    rw [ho] at hj
    cases hj
    rw [hd] at hdj
    cases hdj
  · exact h.own j o' d hj hdj (by simpa [upd, e] using hS) hlt
 | some d0 =>
  refine ⟨h.df, by simpa [Act.put] using h.sz, fun j o' d hj hdj hS hlt => ?_, fun t ht => ?_⟩
  · by_cases e : j = i
    · subst e
      rw [ho] at hj
      cases hj
      rw [hd] at hdj
      cases hdj
      have : d0 < a.tmps.size := by rw [h.sz]; exact hlt
      simp [Act.put, hv, this]
    · have hne : d0 ≠ d := by
       intro e'
       subst e'
       rcases (regOk_pair hok ho hj hdj).1 with e2 | e2
       · exact e e2.symm
       · exact e2 hd
      have := h.own j o' d hj hdj (by simpa [upd, e] using hS) hlt
      simp only [Act.put, Array.getElem?_setIfInBounds_ne hne, this]
  · have hne : d0 ≠ t := fun e' => ht i o ho (by simp [upd]) (by rw [hd, e'])
    simp only [Act.put, Array.getElem?_setIfInBounds_ne hne]
    exact h.old t fun j o' hj hS => ht j o' hj (by unfold upd; split <;> simp_all)
theorem AtF.same {a0 a c : Act} {val : Nat → Value} {S S' : Nat → Bool} (h : AtF ops a0 val S a) (h' : AtF ops a0 val S' c) {t : Tmp} (hlt : t < a0.tmps.size)
 (hS : ∀ (j : Nat) (o : Oper), ops[j]? = some o → o.dst = some t → S j = S' j) : a.tmps[t]? = c.tmps[t]? := by
 by_cases hex : ∃ (j : Nat) (o : Oper), ops[j]? = some o ∧ o.dst = some t ∧ S j = true
 · obtain ⟨j, o, hj, hd, hs⟩ := hex
   rw [h.own j o t hj hd hs hlt, h'.own j o t hj hd ((hS j o hj hd).symm.trans hs) hlt]
 · rw [h.old t fun i o hi hs hd => hex ⟨i, o, hi, hd, hs⟩, h'.old t fun i o hi hs hd => hex ⟨i, o, hi, hd, (hS i o hi hd).trans hs⟩]
def valOf (vs : List (Option Value)) (g : Nat → Value) (i : Nat) : Value := match vs[i]? with
 | some (some v) => v
 | _ => g i
theorem valOf_fixed {vs : List (Option Value)} {i : Nat} {v : Value} (h : vs[i]? = some (some v)) (g : Nat → Value) : valOf vs g i = v := by simp [valOf, h]
theorem valOf_free {vs : List (Option Value)} {i : Nat} (h : vs[i]? = some none) (g : Nat → Value) : valOf vs g i = g i := by simp [valOf, h]
theorem valOf_upd {vs : List (Option Value)} {g : Nat → Value} {i j : Nat} {u : Value} (h : j ≠ i) : valOf vs (updv g i u) j = valOf vs g j := by
 unfold valOf
 split
 · rfl
 · exact updv_ne h
theorem obligF_at (hok : regOk ops = true) {WI : (Nat → Bool) → (Nat → Value) → World → Prop} {a0 : Act} {cf : (Nat → Value) → Act} : ∀ {os : List Oper} {i : Nat} {c : (Nat → Value) → Act} {vs0 vs : List (Option Value)},
    ObligF P ops WI os i c vs cf → vs0.length = i → (∀ k, os[k]? = ops[i + k]?) → (∀ g, AtF ops a0 (valOf (vs0 ++ vs) g) (fun j => decide (j < i)) (c g)) →
    (∀ (j : Nat) (o : Oper), i ≤ j → ops[j]? = some o → ∃ (cj : (Nat → Value) → Act), (∀ g, AtF ops a0 (valOf (vs0 ++ vs) g) (fun k => decide (k < j)) (cj g)) ∧
      ((∃ v, (vs0 ++ vs)[j]? = some (some v) ∧ ∀ S g w, WI S g w → S j = false → depsOk S o → closedS ops S → StepOk P ops o (cj g) w v (WI (upd S j) g)) ∨
       ((vs0 ++ vs)[j]? = some none ∧ ∀ S g w, WI S g w → S j = false → depsOk S o → closedS ops S → StepG P ops o (cj g) w (fun u w' => WI (upd S j) (updv g j u) w')))) ∧
    ∀ g, AtF ops a0 (valOf (vs0 ++ vs) g) (fun k => decide (k < ops.size)) (cf g) := by
  intro os
  induction os with
  | nil =>
    intro i c vs0 vs h hl hos hat
    cases h
    have hn : ∀ k, ops[i + k]? = none := fun k => by simpa using (hos k).symm
    have hsz : ops.size ≤ i := by have := hn 0; simpa using this
    refine ⟨fun j o hij ho => ?_, ?_⟩
    · have := hn (j - i)
      rw [show i + (j - i) = j from by omega, ho] at this
      cases this
    · exact fun g => ⟨(hat g).df, (hat g).sz, fun j o d hj hd hS hlt => (hat g).own j o d hj hd (by have := (Array.getElem?_eq_some_iff.1 hj).1; simp; omega) hlt, fun t ht => (hat g).old t fun j o hj _ => ht j o hj (by have := (Array.getElem?_eq_some_iff.1 hj).1; simpa using this)⟩
  | cons o os ih =>
    intro i c vs0 vs h hl hos hat
    have ho : ops[i]? = some o := by simpa using (hos 0).symm
    have he : upd (fun j => decide (j < i)) i = fun j => decide (j < i + 1) := by
      funext j
      unfold upd
      split
      · subst_vars; simp
      · simp only [decide_eq_decide]; omega
    cases h with
    | @fixed _ _ _ _ _ vs v h rest =>
      have hv : (vs0 ++ some v :: vs)[i]? = some (some v) := by rw [List.getElem?_append_right (by omega), hl]; simp
      have hap : vs0 ++ some v :: vs = (vs0 ++ [some v]) ++ vs := by simp
      have hat' : ∀ g, AtF ops a0 (valOf (vs0 ++ some v :: vs) g) (fun j => decide (j < i + 1)) ((c g).put o.dst v) := fun g => by
        have hs := AtF.step hok (hat g) ho (valOf_fixed hv g)
        rw [he] at hs
        exact hs
      rw [hap] at hat'
      have := ih rest (by simp [hl]) (fun k => by have := hos (k + 1); simpa [Nat.add_assoc, Nat.add_comm 1 k] using this) hat'
      rw [← hap] at this
      refine ⟨fun j oj hij hj => ?_, this.2⟩
      by_cases e : j = i
      · subst e
        rw [ho] at hj
        cases hj
        exact ⟨c, hat, Or.inl ⟨v, hv, h⟩⟩
      · exact this.1 j oj (by omega) hj
    | @free _ _ _ _ _ vs h rest =>
      have hv : (vs0 ++ none :: vs)[i]? = some none := by rw [List.getElem?_append_right (by omega), hl]; simp
      have hap : vs0 ++ none :: vs = (vs0 ++ [none]) ++ vs := by simp
      have hat' : ∀ g, AtF ops a0 (valOf (vs0 ++ none :: vs) g) (fun j => decide (j < i + 1)) ((c g).put o.dst (g i)) := fun g => by
        have hs := AtF.step hok (hat g) ho (valOf_free hv g)
        rw [he] at hs
        exact hs
      rw [hap] at hat'
      have := ih rest (by simp [hl]) (fun k => by have := hos (k + 1); simpa [Nat.add_assoc, Nat.add_comm 1 k] using this) hat'
      rw [← hap] at this
      refine ⟨fun j oj hij hj => ?_, this.2⟩
      by_cases e : j = i
      · subst e
        rw [ho] at hj
        cases hj
        exact ⟨c, hat, Or.inr ⟨hv, h⟩⟩
      · exact this.1 j oj (by omega) hj

theorem any_region_free {WI : (Nat → Bool) → (Nat → Value) → World → Prop} {a : Act} {cf : (Nat → Value) → Act} {w : World} {vs : List (Option Value)} (hm : P.follows .mixedOrders = true) (hok : regOk ops = true)
 (hob : ObligF P ops WI ops.toList 0 (fun _ => a) vs cf) (h0 : WI (fun _ => false) (fun _ => undef) w.drew) (hend : ∀ S g w, WI S g w → (∀ i, i < ops.size → S i = true) → Q .normal (cf g) w) :
 wpAny P .any ops Q ops.size (Array.replicate ops.size false) a { w with drawn := w.drawn + 1 } := by
 have hob' := obligF_at (a0 := a) (vs0 := []) hok hob rfl (fun k => by simp) (fun g => by simpa using AtF.start a (valOf vs g))
 simp only [List.nil_append] at hob'
 obtain ⟨hsteps, hfin⟩ := hob'
 have main : ∀ (fuel : Nat) (listed : Array Bool) (g : Nat → Value) (b : Act) (u : World), listed.size = ops.size → listed.toList.count false = fuel →
  (∀ (i : Nat) (o : Oper), ops[i]? = some o → listed.getD i false = true → depsOk (fun j => listed.getD j false) o) →
  WI (fun j => listed.getD j false) g u → AtF ops a (valOf vs g) (fun j => listed.getD j false) b → wpAny P .any ops Q fuel listed b u := by
  intro fuel
  induction fuel with
  | zero =>
   intro listed g b u hs hc hcl hwi hat
   have hall : ∀ i, i < ops.size → listed.getD i false = true := by
    intro i hi
    have : ¬ false ∈ listed.toList := List.count_eq_zero.1 hc
    have hi' : i < listed.size := by omega
    cases hv : listed.getD i false
    · exfalso
      apply this
      have : listed[i] = false := by simpa [Array.getD, hi'] using hv
      rw [← this]
      exact Array.getElem_mem_toList hi'
    · rfl
   refine ⟨?_, ?_⟩
   · apply List.eq_nil_iff_forall_not_mem.2
     intro j hj
     obtain ⟨h1, o, ho, _⟩ := mem_ready.1 hj
     have hj' := (Array.getElem?_eq_some_iff.1 ho).1
     have := hall j hj'
     simp [Array.getD, show j < listed.size from by omega] at this h1
     rw [this] at h1
     cases h1
   · have he : b = cf g := act_ext (hat.df.trans (hfin g).df.symm) fun t => by
      by_cases hlt : t < a.tmps.size
      · exact hat.same (hfin g) hlt fun j o hj _ => by have := (Array.getElem?_eq_some_iff.1 hj).1; exact (hall j this).trans (by simpa using this)
      · rw [Array.getElem?_eq_none (hat.sz ▸ Nat.le_of_not_lt hlt), Array.getElem?_eq_none ((hfin g).sz ▸ Nat.le_of_not_lt hlt)]
     rw [he]
     exact hend _ _ _ hwi hall
  | succ fuel ih =>
   intro listed g b u hs hc hcl hwi hat
   refine ⟨fun hr => ?_, fun i hi => ?_⟩
   · exfalso
     have hall : ∀ n i, i < n → i < ops.size → listed.getD i false = true := by
      intro n
      induction n with
      | zero => intro i hi; omega
      | succ n ihn =>
       intro i hin hi
       cases hv : listed.getD i false
       · exfalso
         have ho : ops[i]? = some ops[i] := Array.getElem?_eq_getElem hi
         have hmem : i ∈ Region.ready .any ops listed := mem_ready.2 ⟨by simp [Array.getD, show i < listed.size from by omega] at hv ⊢; exact hv, ops[i], ho, fun e he hb => by
          have := regOk_edge hok ho he hb
          exact ihn e.on (by omega) (by omega)⟩
         rw [hr] at hmem
         cases hmem
       · rfl
     have hf : false ∈ listed.toList := by
      apply List.count_pos_iff.1
      omega
     obtain ⟨k, hk, hkv⟩ := List.getElem_of_mem hf
     have hk' : k < listed.size := by simpa using hk
     have := hall (k + 1) k (by omega) (by omega)
     have e1 : listed[k] = false := by simpa using hkv
     simp [Array.getD, hk', e1] at this
   · obtain ⟨h1, o, ho, hdeps⟩ := mem_ready.1 hi
     have hio := (Array.getElem?_eq_some_iff.1 ho).1
     have hil : i < listed.size := by omega
     have h1' : listed.getD i false = false := by simp [Array.getD, hil] at h1 ⊢; exact h1
     obtain ⟨cj, hatc, hstp⟩ := hsteps i o (Nat.zero_le _) ho
     have hset : (fun j => (listed.setIfInBounds i true).getD j false) = upd (fun j => listed.getD j false) i := by
      funext j
      unfold upd
      by_cases e : j = i
      · subst e; simp [Array.getD, hil]
      · rw [if_neg e, getD_set_ne _ (Ne.symm e)]
     have hnext : ∀ g' v' u', (∀ j, listed.getD j false = true → valOf vs g j = valOf vs g' j) → valOf vs g' i = v' → WI (upd (fun j => listed.getD j false) i) g' u' → wpAny P .any ops Q fuel (listed.setIfInBounds i true) (b.put o.dst v') u' := by
      intro g' v' u' hag hvi hu'
      refine ih _ g' _ _ (by simpa using hs) ?_ ?_ ?_ ?_
      · have hv0 : listed.toList[i]'(by simpa using hil) = false := by simpa [Array.getD, hil] using h1'
        have e1 : (listed.setIfInBounds i true).toList = listed.toList.set i true := by simp [Array.toList_setIfInBounds]
        rw [e1, List.count_set (by simpa using hil), hc, hv0]
        simp
      · intro j oj hj hS e he hb
        have hS' : upd (fun j => listed.getD j false) i j = true := by rw [← hset]; exact hS
        have : upd (fun j => listed.getD j false) i e.on = true := by
         unfold upd
         split
         · rfl
         · by_cases ej : j = i
           · subst ej
             rw [ho] at hj
             cases hj
             exact hdeps e he hb
           · exact hcl j oj hj (by simpa [upd, ej] using hS') e he hb
        exact (congrFun hset e.on).trans this
      · rw [hset]; exact hu'
      · rw [hset]; exact AtF.step hok (hat.congr hag) ho hvi
     have hstep : StepG P ops o (cj g) u (fun v' u' => wpAny P .any ops Q fuel (listed.setIfInBounds i true) (b.put o.dst v') u') := by
      have mono : ∀ {R R' : Value → World → Prop}, (∀ v w, R v w → R' v w) → StepG P ops o (cj g) u R → StepG P ops o (cj g) u R' := by
       intro R R' hR h
       unfold StepG at *
       split
       · rename_i hw
         rw [if_pos hw] at h
         exact Oper.wp_mono (fun a' w' ⟨h1, h2⟩ => ⟨h1, hR _ _ h2⟩) h
       · rename_i hw
         rw [if_neg hw] at h
         exact hR _ _ h
      rcases hstp with ⟨v, hv, hst⟩ | ⟨hv, hst⟩
      · refine mono ?_ (hst _ g u hwi h1' (fun e he hb => hdeps e he hb) hcl).toG
        rintro v' w' ⟨rfl, hw'⟩
        exact hnext g _ _ (fun _ _ => rfl) (valOf_fixed hv g) hw'
      · refine mono ?_ (hst _ g u hwi h1' (fun e he hb => hdeps e he hb) hcl)
        intro v' w' hw'
        exact hnext _ _ _ (fun j hj => (valOf_upd (fun e => by subst e; rw [h1'] at hj; cases hj)).symm) ((valOf_free hv _).trans (updv_same _ _ _)) hw'
     have hsame : ∀ t, t ∈ o.looksAt ops → b.tmps[t]? = (cj g).tmps[t]? := by
      intro t ht
      by_cases hlt : t < a.tmps.size
      · refine hat.same (hatc g) hlt fun j oj hj hd => ?_
        rcases (regOk_pair hok ho hj hd).2 ht with ⟨hji, e, he, heo, heb⟩ | ⟨hij, e, he, heo, heb⟩
        · have h5 : listed.getD j false = true := heo ▸ hdeps e he heb
          show listed.getD j false = decide (j < i)
          rw [h5, decide_eq_true hji]
        · show listed.getD j false = decide (j < i)
          rw [decide_eq_false (by omega)]
          cases h5 : listed.getD j false with
          | false => rfl
          | true =>
           have h6 : listed.getD e.on false = true := hcl j oj hj h5 e he heb
           rw [heo, h1'] at h6
           cases h6
      · rw [Array.getElem?_eq_none (hat.sz ▸ Nat.le_of_not_lt hlt), Array.getElem?_eq_none ((hatc g).sz ▸ Nat.le_of_not_lt hlt)]
     have hns := Region.noSelect_spec (by simp only [regOk, Bool.and_eq_true] at hok; exact hok.1) i o
     have hex : execOp b.eval o = execOp (cj g).eval o := execOp_congr o (fun cs bb => hns cs bb ho) fun x hx => by
      cases x with
      | tmp t =>
       have := hsame t (List.mem_append_left _ (List.mem_filterMap.2 ⟨.tmp t, by simpa using hx, rfl⟩))
       simp only [Act.eval, Array.getD_eq_getD_getElem?, this]
      | _ => rfl
     have hwa : Region.wanted o (yielded ops b.tmps) = Region.wanted o (yielded ops (cj g).tmps) := by
      unfold Region.wanted
      cases hg : o.guard with
      | none => rfl
      | some gw =>
       obtain ⟨gi, want⟩ := gw
       have hy : yielded ops b.tmps gi = yielded ops (cj g).tmps gi := by
        unfold yielded
        cases ht : (ops[gi]?).bind (·.dst) with
        | none => rfl
        | some t =>
         have := hsame t (List.mem_append_right _ (by simp [hg, ht]))
         simp [this]
       simp only [hy]
     unfold wpOp
     rw [ho]
     unfold StepG at hstep
     show if Region.wanted o (yielded ops b.tmps) = true then _ else _
     by_cases hw : Region.wanted o (yielded ops b.tmps) = true
     · rw [if_pos hw]
       rw [if_pos (hwa ▸ hw)] at hstep
       exact Or.inl (Oper.wp_mono (fun a' w' ⟨v, e1, e2⟩ => e1 ▸ e2) (upon_moveG (hat.sz.trans (hatc g).sz.symm) hex hstep))
     · rw [if_neg hw]
       rw [if_neg (hwa ▸ hw)] at hstep
       exact hstep
 refine main _ _ (fun _ => undef) _ _ (by simp) (by simp) (fun i o ho h => by simp [Array.getD] at h) ?_ ?_
 · have : (fun j => (Array.replicate ops.size false).getD j false) = fun _ => false := by funext j; simp [Array.getD]
   rw [this]
   exact h0
 · have : (fun j => (Array.replicate ops.size false).getD j false) = fun _ => false := by funext j; simp [Array.getD]
   rw [this]
   exact AtF.start a _
theorem wp_region_free {id : Nat} {WI : (Nat → Bool) → (Nat → Value) → World → Prop} {a : Act} {cf : (Nat → Value) → Act} {w : World} {vs : List (Option Value)} (hm : P.follows .mixedOrders = true) (hok : regOk ops = true)
 (hob : ObligF P ops WI ops.toList 0 (fun _ => a) vs cf) (h0 : WI (fun _ => false) (fun _ => undef) w.drew) (hend : ∀ S g w, WI S g w → (∀ i, i < ops.size → S i = true) → Q .normal (cf g) w) :
 (Code.region id ops true).wp P Q a w := wp_region_any hm (any_region_free hm hok hob h0 hend)
end
end Go.Proofs.YthaceckccobgeaaGreat

namespace Go.Proofs.YthaceckccobgeaaGreat
open Go.RowKit Go.Shelf
set_option linter.unusedVariables false
set_option linter.unusedSimpArgs false
set_option maxRecDepth 100000
attribute [local go_sem] Oper.semAt_some
def KS (S : Nat → Prop) (W W' : World) : Prop := ∀ k, S k → W'.heap[k]? = W.heap[k]?
section
variable {S : Nat → Prop} {A B C W W' : World}
theorem KS.refl (S : Nat → Prop) (W : World) : KS S W W := fun _ _ => rfl
theorem KS.trans (h : KS S A B) (k : KS S B C) : KS S A C := fun j hj => (k j hj).trans (h j hj)
theorem KS.put {l : Nat} (o' : Obj) (h : ¬ S l) : KS S W (W.putObj l o') := fun k hk => World.putObj_heap_other (fun e => h (by subst e; exact hk))
theorem KS.blk {b : Nat} {t : TypeId} {cs : List Value} (h : KS S W W') (hb : Blk W b t cs) (hs : S b) : Blk W' b t cs := (h b hs).trans hb
theorem KS.cell {b o : Nat} {v : Value} (h : KS S W W') (hs : S b) (hc : W.cell? ⟨b, o, none⟩ = some v) : W'.cell? ⟨b, o, none⟩ = some v := (World.cell?_of_block (a := ⟨b, o, none⟩) (h b hs)).trans hc
theorem KS.keep {T : Nat → Prop} (h : Keep T W W') (hs : ∀ k, S k → k < W.heap.size ∧ ¬ T k) : KS S W W' := fun k hk => h.block k (hs k hk).1 (hs k hk).2
theorem keep0_below {n₀ : Nat} (h : Keep0 W W') (hn : n₀ ≤ W.heap.size) : Below n₀ W W' := ⟨h.os, h.tape, h.output, h.size, fun k hk => h.block k (by omega) (fun x => x)⟩
theorem below_keep0 (h : Below W.heap.size W W') : Keep0 W W' := ⟨h.os, h.tape, h.output, h.size, fun k hk _ => h.block k hk⟩
theorem keep0_grown (h : Keep0 W W') : W.grownBy W' none := ⟨h.os, h.tape, h.output, h.size, fun k hk _ => h.block k hk (fun x => x)⟩
theorem blk_kept {row : Option Nat} {b : Nat} {t : TypeId} {cs : List Value} (h : Blk A b t cs) (hg : A.grownBy B row) (hr : ∀ r, row = some r → ∃ o : Obj, A.heap[r]? = some o ∧ o.isCells = false) : Blk B b t cs := by
 refine (hg.block b h.lt ?_).trans h
 intro e
 obtain ⟨o, h1, h2⟩ := hr b e.symm
 have h' : A.heap[b]? = some (.cells cs.toArray t) := h
 rw [h'] at h1
 cases h1
 cases h2
end
def abS (tc tn pb k : Nat) : Prop := k = tc ∨ k = tn ∨ k = pb
set_option maxHeartbeats 2000000 in
theorem above_from1 (F : Fence) (n : Nat) (h7 : F.fn 121) (hro : F.round = none) (hn : 1 ≤ n) (l : Nat) (t s g lm r k : Int) (P : List Int) (pb po pc : Nat) (LA : Option Addr) (ln lc : Nat) (v tc tn : Nat) (hp : P.length ≤ 1000) (ho : ParOK P) (hv : v < P.length) (J Jx : List Nat → World → Prop)
 (hY : ∀ pre x W, J pre W → pre.length < v + 1 → YieldAt F (n - 1) Tryz.prog l #[.int .i64 (x : Nat)] W fun e W' =>
  (e = .returned (.bool true) ∧ J (pre ++ [x]) W' ∧ KS (abS tc tn pb) W W') ∨ (e = .returned (.bool false) ∧ Jx (pre ++ [x]) W'))
 (W : World) (hcb : Blk W tc 24 [i64 t, i64 s, i64 g, i64 lm, i64 r, i64 k, .slice (some ⟨pb, po, none⟩) P.length pc, .slice LA ln lc]) (hnb : Blk W tn 3 [i64 (v : Int)]) (hP : ∀ i, i < P.length → W.cell? ⟨pb, po + i, none⟩ = some (i64 (rd P i))) (h0 : J [] W) :
 CallsIn F n Tryz.prog 121 #[.func (.yield l) #[] #[], .pointer (some ⟨tn, 0, none⟩), .pointer (some ⟨tc, 0, none⟩)] W fun e W' => (∃ v, e = .returned v) ∧
  ((∃ ys, ys = pathN P v ∧ J ys W') ∨ (∃ pre, pre <+: pathN P v ∧ Jx pre W')) := by
 have q1 := hcb.k8
 have q2 := hnb.k1
 have g1 : (P.length ≤ v) = False := eq_false (by omega)
 refine callsIn_of_wp Tryz.func121 rfl h7 ?_ hro
 simp only [Tryz.ntmps121, List.size_toArray, List.length_cons, List.length_nil, Nat.reduceAdd, Nat.reduceSub, Array.replicate_succ, Array.replicate_zero, List.push_toArray, List.append_toArray, List.nil_append, List.cons_append]
 gi_wp2
 gi_loopw [4] (fun i wr => ∃ (z : Int) (dn : List Nat), i = .int .i64 z ∧ dn ++ (if 0 ≤ z then pathN P z.toNat else []) = pathN P v ∧ -1 ≤ z ∧ z < P.length ∧ J dn wr ∧ KS (abS tc tn pb) W wr) (fun i _ => (intOf i + 1).toNat)
 case atStart => exact ⟨(v : Int), [], rfl, by rw [if_pos (by omega)]; simp, by omega, by omega, h0, KS.refl _ _⟩
 case round =>
  obtain ⟨z, dn, rfl, hpt, hz0, hz1, hJs, hks⟩ := hrel
  clear q1 q2 g1
  by_cases hlt : 0 ≤ z
  · obtain ⟨u, rfl⟩ := Int.eq_ofNat_of_zero_le hlt
    rw [if_pos (by omega), Int.toNat_natCast] at hpt
    have hu : u < P.length := by omega
    have hdl : dn.length < v + 1 := by
     have h1 := (pathN_mem ho v hv).2.2
     have h2 := (pathN_mem ho u hu).2.1
     have h3 := congrArg List.length hpt
     rw [List.length_append] at h3
     omega
    obtain ⟨fn, tmps, assign, body, hy, hR⟩ := hY dn u wr hJs hdl
    have hnx : (dn ++ [u]) ++ (if 0 ≤ rd P u then pathN P (rd P u).toNat else []) = pathN P v := by
     rw [List.append_assoc, ← hpt, pathN_eq ho hu]; rfl
    have hb := ho u hu
    clear hpt hdl
    gi_wp2
    refine hR.mono ?_
    rintro e W3 (⟨rfl, hJ3, hk3⟩ | ⟨rfl, hJx3⟩)
    · have hk4 := hks.trans hk3
      have q3 := (hk4.blk hcb (Or.inl rfl)).k8
      have q4 := hk4.cell (Or.inr (Or.inr rfl)) (hP u hu)
      clear hcb hnb hP hks hk3
      gi_wp2
      go_roundw
      case rel => exact ⟨rd P u, dn ++ [u], rfl, hnx, by omega, by omega, hJ3, hk4⟩
      case measure => simp [intOf]; omega
    · gi_wp2
      refine bodyPost_ret (results_none rfl _ _ _) rfl ?_
      exact ⟨⟨_, rfl⟩, .inr ⟨dn ++ [u], ⟨_, hnx⟩, hJx3⟩⟩
  · rw [if_neg hlt, List.append_nil] at hpt
    gi_wp2
    go_end0
    rw [hpt] at hJs
    first
     | exact ⟨⟨_, rfl⟩, .inl hJs⟩
     | exact ⟨⟨_, rfl⟩, .inl ⟨_, rfl, hJs⟩⟩
theorem above_in (F : Fence) (n : Nat) (h5 : F.fn 116) (hro : F.round = none) (t s g lm r k : Int) (P : List Int) (pb po pc : Nat) (LA : Option Addr) (ln lc : Nat) (v : Int) (w : World) :
 CallsIn F n Tryz.prog 116 #[.agg #[i64 t, i64 s, i64 g, i64 lm, i64 r, i64 k, .slice (some ⟨pb, po, none⟩) P.length pc, .slice LA ln lc], .int .i64 v] w fun e w' => e = .returned (.func (.func 121) #[] #[.pointer (some ⟨w.heap.size + 1, 0, none⟩), .pointer (some ⟨w.heap.size, 0, none⟩)]) ∧ w' = (w.alloc (.cells #[i64 t, i64 s, i64 g, i64 lm, i64 r, i64 k, .slice (some ⟨pb, po, none⟩) P.length pc, .slice LA ln lc] 24)).alloc (.cells #[.int .i64 v] 3) := by
 refine callsIn_of_wp Tryz.func116 rfl h5 ?_ hro
 simp only [Tryz.ntmps116, List.size_toArray, List.length_cons, List.length_nil, Nat.reduceAdd, Nat.reduceSub, Array.replicate_succ, Array.replicate_zero, List.push_toArray, List.append_toArray, List.nil_append, List.cons_append]
 gi_wp2
 go_ret
 exact ⟨rfl, rfl⟩
theorem above_stops (F : Fence) (n : Nat) (h7 : F.fn 121) (hro : F.round = none) (hn : 1 ≤ n) (t s g lm r k : Int) (P : List Int) (pb po pc : Nat) (LA : Option Addr) (ln lc : Nat) (v tc tn : Nat) (hp : P.length ≤ 1000) (ho : ParOK P) (hv : v < P.length) (w : World)
 (hcb : Blk w tc 24 [i64 t, i64 s, i64 g, i64 lm, i64 r, i64 k, .slice (some ⟨pb, po, none⟩) P.length pc, .slice LA ln lc]) (hnb : Blk w tn 3 [i64 (v : Int)]) (hP : ∀ i, i < P.length → w.cell? ⟨pb, po + i, none⟩ = some (i64 (rd P i))) :
 SeqStopsK F n Tryz.prog 121 #[.pointer (some ⟨tn, 0, none⟩), .pointer (some ⟨tc, 0, none⟩)] (fun x : Nat => #[Value.int .i64 (x : Nat)]) (KS (abS tc tn pb)) (fun ys => ys = pathN P v) (fun pre => pre <+: pathN P v) (v + 1) w := fun l J Jx W hW _ _ hY h0 =>
 above_from1 F n h7 hro hn l t s g lm r k P pb po pc LA ln lc v tc tn hp ho hv J Jx hY W ((hW.block tc hcb.lt).trans hcb) ((hW.block tn hnb.lt).trans hnb) (fun i hi => (hW.cell (p := ⟨pb, po + i, none⟩) (World.block_lt_of_cell? _ _ (hP i hi))).trans (hP i hi)) h0
set_option maxHeartbeats 4000000 in
theorem tree_Under (t s g lm r k : Int) (P : List Int) (pb po pc : Nat) (LA : Option Addr) (ln lc : Nat) (a b : Nat) (w : World) (hp : P.length ≤ 1000) (ho : ParOK P) (ha : a < P.length) (hP : ∀ i, i < P.length → w.cell? ⟨pb, po + i, none⟩ = some (i64 (rd P i))) :
 Calls Tryz.prog 102 #[.agg #[i64 t, i64 s, i64 g, i64 lm, i64 r, i64 k, .slice (some ⟨pb, po, none⟩) P.length pc, .slice LA ln lc], i64 (a : Int), i64 (b : Int)] w (Ret (.bool (undP P a b)) w) := by
 refine (callsIn_wide (n := 6)).1 ?_
 refine callsIn_of_wp_marks Tryz.func102 rfl trivial ?_ rfl
 simp only [Tryz.ntmps102, List.size_toArray, List.length_cons, List.length_nil, Nat.reduceAdd, Nat.reduceSub, Array.replicate_succ, Array.replicate_zero, List.push_toArray, List.append_toArray, List.nil_append, List.cons_append]
 gi_wp2
 refine ⟨trivial, ?_⟩
 have hsz : (((w.alloc (.cells #[i64 t, i64 s, i64 g, i64 lm, i64 r, i64 k, .slice (some ⟨pb, po, none⟩) P.length pc, .slice LA ln lc] 24)).alloc (.cells #[i64 (b : Int)] 3)).alloc (.cells #[.bool false] 4)).heap.size = w.heap.size + 3 := by simp
 have hbB : Blk (((w.alloc (.cells #[i64 t, i64 s, i64 g, i64 lm, i64 r, i64 k, .slice (some ⟨pb, po, none⟩) P.length pc, .slice LA ln lc] 24)).alloc (.cells #[i64 (b : Int)] 3)).alloc (.cells #[.bool false] 4)) (w.heap.size + 1) 3 [i64 (b : Int)] := (Blk.made (by simp) rfl).alloc _
 have hbR : Blk (((w.alloc (.cells #[i64 t, i64 s, i64 g, i64 lm, i64 r, i64 k, .slice (some ⟨pb, po, none⟩) P.length pc, .slice LA ln lc] 24)).alloc (.cells #[i64 (b : Int)] 3)).alloc (.cells #[.bool false] 4)) (w.heap.size + 1 + 1) 4 [.bool false] := Blk.made (by simp) rfl
 have hk3 : Keep0 w (((w.alloc (.cells #[i64 t, i64 s, i64 g, i64 lm, i64 r, i64 k, .slice (some ⟨pb, po, none⟩) P.length pc, .slice LA ln lc] 24)).alloc (.cells #[i64 (b : Int)] 3)).alloc (.cells #[.bool false] 4)) := (((Keep.refl _ _).alloc _).alloc _).alloc _
 generalize ((w.alloc (.cells #[i64 t, i64 s, i64 g, i64 lm, i64 r, i64 k, .slice (some ⟨pb, po, none⟩) P.length pc, .slice LA ln lc] 24)).alloc (.cells #[i64 (b : Int)] 3)).alloc (.cells #[.bool false] 4) = w3 at *
 refine (above_in Fence.wide _ trivial rfl t s g lm r k P pb po pc LA ln lc (a : Int) w3).mono ?_
 rintro e w' ⟨rfl, rfl⟩
 have c1 : Blk ((w3.alloc (.cells #[i64 t, i64 s, i64 g, i64 lm, i64 r, i64 k, .slice (some ⟨pb, po, none⟩) P.length pc, .slice LA ln lc] 24)).alloc (.cells #[i64 (a : Int)] 3)) (w.heap.size + 3) 24 [i64 t, i64 s, i64 g, i64 lm, i64 r, i64 k, .slice (some ⟨pb, po, none⟩) P.length pc, .slice LA ln lc] := (Blk.made hsz.symm rfl).alloc _
 have c2 : Blk ((w3.alloc (.cells #[i64 t, i64 s, i64 g, i64 lm, i64 r, i64 k, .slice (some ⟨pb, po, none⟩) P.length pc, .slice LA ln lc] 24)).alloc (.cells #[i64 (a : Int)] 3)) (w.heap.size + 3 + 1) 3 [i64 (a : Int)] := Blk.made (by simp [hsz]) rfl
 have hbB5 := (hbB.alloc (.cells #[i64 t, i64 s, i64 g, i64 lm, i64 r, i64 k, .slice (some ⟨pb, po, none⟩) P.length pc, .slice LA ln lc] 24)).alloc (.cells #[i64 (a : Int)] 3)
 have hbR5 := (hbR.alloc (.cells #[i64 t, i64 s, i64 g, i64 lm, i64 r, i64 k, .slice (some ⟨pb, po, none⟩) P.length pc, .slice LA ln lc] 24)).alloc (.cells #[i64 (a : Int)] 3)
 have hk5 := (hk3.alloc (.cells #[i64 t, i64 s, i64 g, i64 lm, i64 r, i64 k, .slice (some ⟨pb, po, none⟩) P.length pc, .slice LA ln lc] 24)).alloc (.cells #[i64 (a : Int)] 3)
 have hz5 : ((w3.alloc (.cells #[i64 t, i64 s, i64 g, i64 lm, i64 r, i64 k, .slice (some ⟨pb, po, none⟩) P.length pc, .slice LA ln lc] 24)).alloc (.cells #[i64 (a : Int)] 3)).heap.size = w.heap.size + 5 := by simp [hsz]
 have hpz : ∀ i, i < P.length → pb < w.heap.size := fun i hi => by have := World.block_lt_of_cell? _ _ (hP i hi); simpa using this
 have hP5 : ∀ i, i < P.length → ((w3.alloc (.cells #[i64 t, i64 s, i64 g, i64 lm, i64 r, i64 k, .slice (some ⟨pb, po, none⟩) P.length pc, .slice LA ln lc] 24)).alloc (.cells #[i64 (a : Int)] 3)).cell? ⟨pb, po + i, none⟩ = some (i64 (rd P i)) := fun i hi => (cell_old hk5 (hpz i hi) (fun h => h) _).trans (hP i hi)
 have hpb := hpz a ha
 rw [hsz]
 clear hbB hbR hk3 hsz hP hpz
 generalize (w3.alloc (.cells #[i64 t, i64 s, i64 g, i64 lm, i64 r, i64 k, .slice (some ⟨pb, po, none⟩) P.length pc, .slice LA ln lc] 24)).alloc (.cells #[i64 (a : Int)] 3) = w5 at *
 gi_wp2
 refine wpIn_rangeFunc_ownF rfl (by omega) (gf := 121) (lb := #[.pointer (some ⟨w.heap.size + 3 + 1, 0, none⟩), .pointer (some ⟨w.heap.size + 3, 0, none⟩)]) rfl trivial (enters_of Tryz.func121 (by kernel_rfl) rfl)
  (above_stops Fence.wide _ trivial rfl (by omega) t s g lm r k P pb po pc LA ln lc a (w.heap.size + 3) (w.heap.size + 3 + 1) hp ho ha w5 c1 c2 hP5)
  (fun h k => h.trans k) (fun W l o o' hl _ _ _ => KS.put o' (fun h => by unfold abS at h; omega)) (Below.refl _ _) (fun _ => rfl)
  (fun pre W => ((∀ y ∈ pre, y ≠ b) ∧ Blk W (w.heap.size + 1) 3 [i64 (b : Int)] ∧ Blk W (w.heap.size + 1 + 1) 4 [.bool false]) ∧ Below w.heap.size w W)
  (fun c pre W => (c = .ret ∧ b ∈ pre ∧ Blk W (w.heap.size + 1 + 1) 4 [.bool true]) ∧ Below w.heap.size w W)
  (OwnFrom.and (Own.from (fun s A B row hs hg hr => ⟨hs.1, blk_kept hs.2.1 hg hr, blk_kept hs.2.2 hg hr⟩) _) (ownFrom_below (Nat.le_refl _) (by omega)))
  (fun c => OwnFrom.and (Own.from (fun s A B row hs hg hr => ⟨hs.1, hs.2.1, blk_kept hs.2.2 hg hr⟩) _) (ownFrom_below (Nat.le_refl _) (by omega)))
  ⟨⟨by simp, hbB5, hbR5⟩, keep0_below hk5 (Nat.le_refl _)⟩
  (fun x => { tmps := #[.agg #[i64 t, i64 s, i64 g, i64 lm, i64 r, i64 k, .slice (some ⟨pb, po, none⟩) P.length pc, .slice LA ln lc], i64 (a : Int), i64 (b : Int), .pointer (some ⟨w.heap.size, 0, none⟩), undef, .pointer (some ⟨w.heap.size + 1, 0, none⟩), .pointer (some ⟨w.heap.size + 1 + 1, 0, none⟩), .int .i64 (x : Nat), .agg #[i64 t, i64 s, i64 g, i64 lm, i64 r, i64 k, .slice (some ⟨pb, po, none⟩) P.length pc, .slice LA ln lc], i64 (a : Int), .func (.func 121) #[] #[.pointer (some ⟨w.heap.size + 3 + 1, 0, none⟩), .pointer (some ⟨w.heap.size + 3, 0, none⟩)], .int .i64 (x : Nat), undef, undef, undef], defers := [] }) ?assign ?body ?done ?stop
 case assign =>
  intro l x W K hK
  gi_wp2
  exact hK
 case body =>
  rintro l pre x W ⟨⟨hpn, hB, hR⟩, hbl⟩ _
  have qB := hB.k1
  have qR := hR.k1
  by_cases e : x = b
  · subst e
    gi_wp2
    exact ⟨KeepsOthers.setCell _ _ _, ⟨rfl, by simp, hR.set 0 _⟩, hbl.setCell (p := ⟨w.heap.size + 1 + 1, 0, none⟩) (by simp; omega) _⟩
  · gi_wp2
    exact ⟨KeepsOthers.refl _, KS.refl _ _, ⟨fun y hy => (List.mem_append.1 hy).elim (hpn y) (fun e' => by simp at e'; omega), hB, hR⟩, hbl⟩
 case done =>
  rintro D ys W hD rfl ⟨⟨hne, _, hR⟩, hbl⟩ hK
  have qR := hR.k1
  gi_wp2
  have hK' := (KeepsOthers.setCell W ⟨w.heap.size + 1 + 1, 0, none⟩ (.bool false)).same D _ hK rfl
  refine ⟨by simp, .inl ⟨_, _, rfl, run_takeDeferred hK', ?_⟩⟩
  have hR2 := blk_kept (hR.set 0 (.bool false)) (grownBy_putObj' _ D (.deferred none)) (fun r e => by cases e; exact ⟨_, hK', rfl⟩)
  have hc5 := hR2.cell 0
  simp at hc5
  refine ⟨.bool false, ?_, by unfold undP; rw [decide_eq_false (fun h => hne b h rfl)], below_keep0 ((hbl.setCell (p := ⟨w.heap.size + 1 + 1, 0, none⟩) (by simp; omega) _).trans (belowK_b (w := w) (Nat.le_refl _) _ D _ _ (by omega) hK' rfl rfl))⟩
  simp [results, Tryz.results102, go_sem, hc5]
 case stop =>
  rintro D c pre W hD hpre ⟨⟨rfl, hin, hR⟩, hbl⟩ hK
  gi_wp2
  refine ⟨by simp, .inl ⟨_, _, rfl, run_takeDeferred hK, ?_⟩⟩
  have hR2 := blk_kept hR (grownBy_putObj' _ D (.deferred none)) (fun r e => by cases e; exact ⟨_, hK, rfl⟩)
  have hc5 := hR2.cell 0
  simp at hc5
  refine ⟨.bool true, ?_, by unfold undP; rw [decide_eq_true (hpre.subset hin)], below_keep0 (hbl.trans (belowK_b (w := w) (Nat.le_refl _) W D _ _ (by omega) hK rfl rfl))⟩
  simp [results, Tryz.results102, go_sem, hc5]
end Go.Proofs.YthaceckccobgeaaGreat

namespace Go.Proofs.YthaceckccobgeaaGreat
open Go.RowKit Go.Shelf
set_option linter.unusedVariables false
set_option linter.unusedSimpArgs false
set_option maxRecDepth 100000
attribute [local go_sem] Oper.semAt_some
theorem KS.lt {S : Nat → Prop} {W W' : World} {k : Nat} (h : KS S W W') (hs : S k) (hk : k < W.heap.size) : k < W'.heap.size := by
 have h1 := h k hs
 rw [Array.getElem?_eq_getElem hk] at h1
 exact (Array.getElem?_eq_some_iff.1 h1).1
theorem KS.set {S : Nat → Prop} {W : World} {b o : Nat} {v : Value} (h : ¬ S b) : KS S W (W.setCell ⟨b, o, none⟩ v) := fun k hk => by
 have e : b ≠ k := fun e => h (by rw [e]; exact hk)
 simp [World.setCell, Array.getElem?_modify, e]
def uL (P W : List Int) (q v : Nat) : Nat → List Int
 | 0 => []
 | k + 1 => if lvB P.length W (q + 2 * k) = true ∧ undP P (lvV P.length W (q + 2 * k)) v = true then uL P W q v k ++ [lvN P.length W (q + 2 * k)] else uL P W q v k
theorem uL_len (P W : List Int) (q v : Nat) : ∀ k, (uL P W q v k).length ≤ k
 | 0 => Nat.le_refl _
 | k + 1 => by
  have := uL_len P W q v k
  rw [uL]
  split
  · simp; omega
  · omega
def sumW (l : List Int) : Int := l.foldl (fun a x => IntKind.i64.wrap (a + x)) 0
theorem sumW_snoc (l : List Int) (x : Int) : sumW (l ++ [x]) = IntKind.i64.wrap (sumW l + x) := by simp [sumW]
theorem uL_sum (P W : List Int) (q v : Nat) : ∀ k, k ≤ 1000 → sumW (uL P W q v k) = usedN P W q k v
 | 0, _ => rfl
 | k + 1, hk => by
  have h1 := uL_sum P W q v k (by omega)
  have h2 := usedN_bd (P := P) (W := W) (q := q) v k
  have h3 := useT_bd (P := P) (W := W) (q := q) v k
  have e : usedN P W q (k + 1) v = usedN P W q k v + useT P W q v k := rfl
  rw [uL, e]
  unfold useT at *
  split
  · rename_i hc
    rw [if_pos hc] at h3
    rw [sumW_snoc, h1]
    exact IntWalk.i64_in _ (by omega)
  · rw [h1]; omega
def unS (tc tw tn pb wb k : Nat) : Prop := k = tc ∨ k = tw ∨ k = tn ∨ k = pb ∨ k = wb
set_option maxHeartbeats 4000000 in
theorem under_from1 (n : Nat) (hn : 1 ≤ n) (l : Nat) (t g lm r : Int) (s K : Nat) (P : List Int) (pb po pc : Nat) (LA : Option Addr) (ln lc : Nat) (W : List Int) (wb wo wc q v tc tw tn : Nat) (hs : 1 ≤ s ∧ s ≤ 8) (hK : K ≤ 100) (h0 : 0 < P.length) (hp : P.length ≤ 1000) (ho : ParOK P) (hq : q = P.length * (6 + 2 * s)) (hW : q + 2 * K ≤ W.length) (hWb : W.length ≤ 1000000) (J Jx : List Int → World → Prop)
 (w : World) (hJ : AbidesFrom w.heap.size J)
 (hY : ∀ pre x w', J pre w' → pre.length < K → YieldAt Fence.wide (n - 1) Tryz.prog l #[.int .i64 x] w' fun e w2 =>
  (e = .returned (.bool true) ∧ J (pre ++ [x]) w2 ∧ KS (unS tc tw tn pb wb) w' w2) ∨ (e = .returned (.bool false) ∧ Jx (pre ++ [x]) w2))
 (hcb : Blk w tc 24 [i64 t, i64 (s : Int), i64 g, i64 lm, i64 r, i64 (K : Int), .slice (some ⟨pb, po, none⟩) P.length pc, .slice LA ln lc]) (hwb : Blk w tw 22 [.slice (some ⟨wb, wo, none⟩) W.length wc]) (hnb : Blk w tn 3 [i64 (v : Int)]) (hP : ∀ i, i < P.length → w.cell? ⟨pb, po + i, none⟩ = some (i64 (rd P i))) (hWc : ∀ i, i < W.length → w.cell? ⟨wb, wo + i, none⟩ = some (i64 (rd W i))) (hJ0 : J [] w) :
 CallsIn Fence.wide n Tryz.prog 101 #[.func (.yield l) #[] #[], .pointer (some ⟨tc, 0, none⟩), .pointer (some ⟨tw, 0, none⟩), .pointer (some ⟨tn, 0, none⟩)] w fun e W' => (∃ v, e = .returned v) ∧
  ((∃ ys, ys = uL P W q v K ∧ J ys W') ∨ (∃ pre, True ∧ Jx pre W')) := by
 have q1 := hcb.k8
 refine callsIn_of_wp Tryz.func101 rfl trivial ?_ rfl
 simp only [Tryz.ntmps101, List.size_toArray, List.length_cons, List.length_nil, Nat.reduceAdd, Nat.reduceSub, Array.replicate_succ, Array.replicate_zero, List.push_toArray, List.append_toArray, List.nil_append, List.cons_append]
 gi_wp2
 clear q1
 gi_loopw [11] (fun i wr => ∃ j : Nat, j ≤ K ∧ i = .int .i64 j ∧ J (uL P W q v j) wr ∧ KS (unS tc tw tn pb wb) w wr) (fun i _ => K - (intOf i).toNat)
 case atStart => exact ⟨0, Nat.zero_le _, rfl, hJ0, KS.refl _ _⟩
 case round =>
  obtain ⟨k, hk, rfl, hJs, hks⟩ := hrel
  by_cases hlt : k < K
  · have hpz : pb < w.heap.size := by have := World.block_lt_of_cell? _ _ (hP 0 h0); simpa using this
    have hwz : wb < w.heap.size := by have := World.block_lt_of_cell? _ _ (hWc 0 (by omega)); simpa using this
    have hS : ∀ j, unS tc tw tn pb wb j → j < w.heap.size := by
     rintro j (rfl | rfl | rfl | rfl | rfl)
     · exact hcb.lt
     · exact hwb.lt
     · exact hnb.lt
     · exact hpz
     · exact hwz
    have hSr : ∀ j, unS tc tw tn pb wb j → j < wr.heap.size := fun j hj => hks.lt hj (hS j hj)
    have HCB := hid (hks.blk hcb (Or.inl rfl))
    have HWB := hid (hks.blk hwb (Or.inr (Or.inl rfl)))
    have HNB := hid (hks.blk hnb (Or.inr (Or.inr (Or.inl rfl))))
    have HP := hid (fun i hi => hks.cell (Or.inr (Or.inr (Or.inr (Or.inl rfl)))) (hP i hi))
    have HWC := hid (fun i hi => hks.cell (Or.inr (Or.inr (Or.inr (Or.inr rfl)))) (hWc i hi))
    have HKS := hid hks
    have HJS := hid hJs
    have HJ := hid hJ
    have HY := hid hY
    have HSR := hid hSr
    have hLE := (uL_len P W q v k)
    have hUK : uL P W q v (k + 1) = if lvB P.length W (q + 2 * k) = true ∧ undP P (lvV P.length W (q + 2 * k)) v = true then uL P W q v k ++ [lvN P.length W (q + 2 * k)] else uL P W q v k := rfl
    have HUK := hid hUK
    have hvl := lvV_lt (W := W) P.length (q + 2 * k) h0
    have HLV := hid (usage_Live t g lm r s K P pb po pc LA ln lc W wb wo wc q k wr hs hK h0 hp hq (by omega) (by omega) hWb HWC.out)
    clear hcb hwb hnb hP hWc hks hJs hJ hY hSr hUK hS hpz hwz
    have q1 := HCB.out.k8
    have q2 := HWB.out.k1
    have q3 := HNB.out.k1
    generalize lvV P.length W (q + 2 * k) = lv at *
    generalize lvN P.length W (q + 2 * k) = lq at *
    cases hb : lvB P.length W (q + 2 * k) with
    | false =>
     rw [hb] at HLV HUK
     clear hb
     gi_wp2
     refine ⟨trivial, ?_⟩
     refine (callsIn_wide.2 HLV.out).mono ?_
     rintro e w1 ⟨rfl, hk1⟩
     have HK1 := hid hk1
     clear hk1 q1 q2 q3
     gi_wp2
     refine ⟨trivial, ?_⟩
     gi_wp2
     refine ⟨fun _ h => (by cases h), ?_⟩
     gi_wp2
     go_roundw
     case rel => exact ⟨k + 1, by omega, by go_num, by rw [HUK.out, if_neg (by simp)]; exact HJ.out _ _ _ none HJS.out (keep0_grown HK1.out) (fun r e => by cases e), HKS.out.trans (KS.keep HK1.out (fun j hj => ⟨HSR.out j hj, fun h => h⟩))⟩
     case measure => simp [intOf]; omega
    | true =>
     rw [hb] at HLV HUK
     clear hb
     gi_wp2
     refine ⟨trivial, ?_⟩
     refine (callsIn_wide.2 HLV.out).mono ?_
     rintro e w1 ⟨rfl, hk1⟩
     have HK1 := hid hk1
     have q1 := (hk1.blk HCB.out (fun h => h)).k8
     have q2 := (hk1.blk HWB.out (fun h => h)).k1
     have q3 := (hk1.blk HNB.out (fun h => h)).k1
     have HUN := hid (tree_Under t (s : Int) g lm r (K : Int) P pb po pc LA ln lc lv v w1 hp ho hvl (fun i hi => (cell_old HK1.out (by have := World.block_lt_of_cell? _ _ (HP.out i hi); simpa using this) (fun h => h) _).trans (HP.out i hi)))
     have hJ1 := HJ.out _ _ _ none HJS.out (keep0_grown HK1.out) (fun r e => by cases e)
     have hks1 := HKS.out.trans (KS.keep HK1.out (fun j hj => ⟨HSR.out j hj, fun h => h⟩))
     have HJ1 := hid hJ1
     have HKS1 := hid hks1
     have HSZ := hid hk1.size
     clear hk1 hJ1 hks1
     cases hu : undP P lv v with
     | false =>
      rw [hu] at HUN HUK
      clear hu
      gi_wp2
      refine ⟨trivial, ?_⟩
      refine (callsIn_wide.2 HUN.out).mono ?_
      rintro e w2 ⟨rfl, hk2⟩
      have HK2 := hid hk2
      clear hk2 q1 q2 q3
      gi_wp2
      refine ⟨fun _ h => (by cases h), ?_⟩
      gi_wp2
      go_roundw
      case rel => exact ⟨k + 1, by omega, by go_num, by rw [HUK.out, if_neg (by simp)]; exact HJ.out _ _ _ none HJ1.out (keep0_grown HK2.out) (fun r e => by cases e), HKS1.out.trans (KS.keep HK2.out (fun j hj => ⟨Nat.lt_of_lt_of_le (HSR.out j hj) HSZ.out, fun h => h⟩))⟩
      case measure => simp [intOf]; omega
     | true =>
      rw [hu] at HUN HUK
      clear hu
      gi_wp2
      refine ⟨trivial, ?_⟩
      refine (callsIn_wide.2 HUN.out).mono ?_
      rintro e w2 ⟨rfl, hk2⟩
      have hJ2 := HJ.out _ _ _ none HJ1.out (keep0_grown hk2) (fun r e => by cases e)
      have HKS2 := hid (HKS1.out.trans (KS.keep hk2 (fun j hj => ⟨Nat.lt_of_lt_of_le (HSR.out j hj) HSZ.out, fun h => h⟩)))
      obtain ⟨fn, tmps, assign, body, hy, hR⟩ := HY.out _ lq w2 hJ2 (by omega)
      clear hk2 q1 q2 q3 hJ2
      gi_wp2
      refine hR.mono ?_
      rintro e W3 (⟨rfl, hJ3, hk3⟩ | ⟨rfl, hJx3⟩)
      · gi_wp2
        go_roundw
        case rel => exact ⟨k + 1, by omega, by go_num, by rw [HUK.out, if_pos (by simp)]; exact hJ3, HKS2.out.trans hk3⟩
        case measure => simp [intOf]; omega
      · gi_wp2
        refine bodyPost_ret (results_none rfl _ _ _) rfl ?_
        exact ⟨⟨_, rfl⟩, .inr ⟨_, trivial, hJx3⟩⟩
  · obtain rfl : k = K := by omega
    gi_wp2
    go_end0
    exact ⟨⟨_, rfl⟩, .inl ⟨_, rfl, hJs⟩⟩
theorem under_in (F : Fence) (n : Nat) (h5 : F.fn 65) (hro : F.round = none) (t g lm r : Int) (s K : Nat) (P : List Int) (pb po pc : Nat) (LA : Option Addr) (ln lc : Nat) (W : List Int) (wb wo wc : Nat) (v : Int) (w : World) :
 CallsIn F n Tryz.prog 65 #[.agg #[i64 t, i64 (s : Int), i64 g, i64 lm, i64 r, i64 (K : Int), .slice (some ⟨pb, po, none⟩) P.length pc, .slice LA ln lc], .slice (some ⟨wb, wo, none⟩) W.length wc, .int .i64 v] w fun e w' => e = .returned (.func (.func 101) #[] #[.pointer (some ⟨w.heap.size, 0, none⟩), .pointer (some ⟨w.heap.size + 1, 0, none⟩), .pointer (some ⟨w.heap.size + 1 + 1, 0, none⟩)]) ∧ w' = ((w.alloc (.cells #[i64 t, i64 (s : Int), i64 g, i64 lm, i64 r, i64 (K : Int), .slice (some ⟨pb, po, none⟩) P.length pc, .slice LA ln lc] 24)).alloc (.cells #[.slice (some ⟨wb, wo, none⟩) W.length wc] 22)).alloc (.cells #[.int .i64 v] 3) := by
 refine callsIn_of_wp Tryz.func65 rfl h5 ?_ hro
 simp only [Tryz.ntmps65, List.size_toArray, List.length_cons, List.length_nil, Nat.reduceAdd, Nat.reduceSub, Array.replicate_succ, Array.replicate_zero, List.push_toArray, List.append_toArray, List.nil_append, List.cons_append]
 gi_wp2
 go_ret
 exact ⟨rfl, rfl⟩
theorem under_stops (n : Nat) (hn : 1 ≤ n) (t g lm r : Int) (s K : Nat) (P : List Int) (pb po pc : Nat) (LA : Option Addr) (ln lc : Nat) (W : List Int) (wb wo wc q v tc tw tn : Nat) (hs : 1 ≤ s ∧ s ≤ 8) (hK : K ≤ 100) (h0 : 0 < P.length) (hp : P.length ≤ 1000) (ho : ParOK P) (hq : q = P.length * (6 + 2 * s)) (hW : q + 2 * K ≤ W.length) (hWb : W.length ≤ 1000000)
 (w : World) (hcb : Blk w tc 24 [i64 t, i64 (s : Int), i64 g, i64 lm, i64 r, i64 (K : Int), .slice (some ⟨pb, po, none⟩) P.length pc, .slice LA ln lc]) (hwb : Blk w tw 22 [.slice (some ⟨wb, wo, none⟩) W.length wc]) (hnb : Blk w tn 3 [i64 (v : Int)]) (hP : ∀ i, i < P.length → w.cell? ⟨pb, po + i, none⟩ = some (i64 (rd P i))) (hWc : ∀ i, i < W.length → w.cell? ⟨wb, wo + i, none⟩ = some (i64 (rd W i))) :
 SeqStopsK Fence.wide n Tryz.prog 101 #[.pointer (some ⟨tc, 0, none⟩), .pointer (some ⟨tw, 0, none⟩), .pointer (some ⟨tn, 0, none⟩)] (fun x : Int => #[Value.int .i64 x]) (KS (unS tc tw tn pb wb)) (fun ys => ys = uL P W q v K) (fun _ => True) K w := fun l J Jx w' hW' hJ _ hY h0' =>
 under_from1 n hn l t g lm r s K P pb po pc LA ln lc W wb wo wc q v tc tw tn hs hK h0 hp ho hq hW hWb J Jx w' hJ hY ((hW'.block tc hcb.lt).trans hcb) ((hW'.block tw hwb.lt).trans hwb) ((hW'.block tn hnb.lt).trans hnb) (fun i hi => (hW'.cell (p := ⟨pb, po + i, none⟩) (World.block_lt_of_cell? _ _ (hP i hi))).trans (hP i hi)) (fun i hi => (hW'.cell (p := ⟨wb, wo + i, none⟩) (World.block_lt_of_cell? _ _ (hWc i hi))).trans (hWc i hi)) h0'
set_option maxHeartbeats 4000000 in
theorem usage_Used (t g lm r : Int) (s K : Nat) (P : List Int) (pb po pc : Nat) (LA : Option Addr) (ln lc : Nat) (W : List Int) (wb wo wc q v : Nat) (w : World) (hs : 1 ≤ s ∧ s ≤ 8) (hK : K ≤ 100) (h0 : 0 < P.length) (hp : P.length ≤ 1000) (ho : ParOK P) (hq : q = P.length * (6 + 2 * s)) (hW : q + 2 * K ≤ W.length) (hWb : W.length ≤ 1000000) (hP : ∀ i, i < P.length → w.cell? ⟨pb, po + i, none⟩ = some (i64 (rd P i))) (hWc : ∀ i, i < W.length → w.cell? ⟨wb, wo + i, none⟩ = some (i64 (rd W i))) :
 Calls Tryz.prog 15 #[.agg #[i64 t, i64 (s : Int), i64 g, i64 lm, i64 r, i64 (K : Int), .slice (some ⟨pb, po, none⟩) P.length pc, .slice LA ln lc], .slice (some ⟨wb, wo, none⟩) W.length wc, i64 (v : Int)] w (Ret (i64 (usedN P W q K v)) w) := by
 have hpz : pb < w.heap.size := by have := World.block_lt_of_cell? _ _ (hP 0 h0); simpa using this
 have hwz : wb < w.heap.size := by
  have := World.block_lt_of_cell? _ _ (hWc 0 (by
   have : 1 * (6 + 2 * s) ≤ P.length * (6 + 2 * s) := Nat.mul_le_mul_right _ h0
   omega))
  simpa using this
 have HU := hid (uL_sum P W q v K (by omega))
 generalize usedN P W q K v = un at *
 have HQ := hid hq
 clear hq
 refine (callsIn_wide (n := 6)).1 ?_
 refine callsIn_of_wp_marks Tryz.func15 rfl trivial ?_ rfl
 simp only [Tryz.ntmps15, List.size_toArray, List.length_cons, List.length_nil, Nat.reduceAdd, Nat.reduceSub, Array.replicate_succ, Array.replicate_zero, List.push_toArray, List.append_toArray, List.nil_append, List.cons_append]
 gi_wp2
 refine ⟨trivial, ?_⟩
 have hsz : ((w.alloc (.cells #[i64 t, i64 (s : Int), i64 g, i64 lm, i64 r, i64 (K : Int), .slice (some ⟨pb, po, none⟩) P.length pc, .slice LA ln lc] 24)).alloc (.cells #[i64 0] 3)).heap.size = w.heap.size + 2 := by simp
 have hbZ : Blk ((w.alloc (.cells #[i64 t, i64 (s : Int), i64 g, i64 lm, i64 r, i64 (K : Int), .slice (some ⟨pb, po, none⟩) P.length pc, .slice LA ln lc] 24)).alloc (.cells #[i64 0] 3)) (w.heap.size + 1) 3 [i64 0] := Blk.made (by simp) rfl
 have hk2 : Keep0 w ((w.alloc (.cells #[i64 t, i64 (s : Int), i64 g, i64 lm, i64 r, i64 (K : Int), .slice (some ⟨pb, po, none⟩) P.length pc, .slice LA ln lc] 24)).alloc (.cells #[i64 0] 3)) := ((Keep.refl _ _).alloc _).alloc _
 generalize (w.alloc (.cells #[i64 t, i64 (s : Int), i64 g, i64 lm, i64 r, i64 (K : Int), .slice (some ⟨pb, po, none⟩) P.length pc, .slice LA ln lc] 24)).alloc (.cells #[i64 0] 3) = w2 at *
 refine (under_in Fence.wide _ trivial rfl t g lm r s K P pb po pc LA ln lc W wb wo wc (v : Int) w2).mono ?_
 rintro e w' ⟨rfl, rfl⟩
 have c1 : Blk (((w2.alloc (.cells #[i64 t, i64 (s : Int), i64 g, i64 lm, i64 r, i64 (K : Int), .slice (some ⟨pb, po, none⟩) P.length pc, .slice LA ln lc] 24)).alloc (.cells #[.slice (some ⟨wb, wo, none⟩) W.length wc] 22)).alloc (.cells #[i64 (v : Int)] 3)) (w.heap.size + 2) 24 [i64 t, i64 (s : Int), i64 g, i64 lm, i64 r, i64 (K : Int), .slice (some ⟨pb, po, none⟩) P.length pc, .slice LA ln lc] := ((Blk.made hsz.symm rfl).alloc _).alloc _
 have c2 : Blk (((w2.alloc (.cells #[i64 t, i64 (s : Int), i64 g, i64 lm, i64 r, i64 (K : Int), .slice (some ⟨pb, po, none⟩) P.length pc, .slice LA ln lc] 24)).alloc (.cells #[.slice (some ⟨wb, wo, none⟩) W.length wc] 22)).alloc (.cells #[i64 (v : Int)] 3)) (w.heap.size + 2 + 1) 22 [.slice (some ⟨wb, wo, none⟩) W.length wc] := (Blk.made (by simp [hsz]) rfl).alloc _
 have c3 : Blk (((w2.alloc (.cells #[i64 t, i64 (s : Int), i64 g, i64 lm, i64 r, i64 (K : Int), .slice (some ⟨pb, po, none⟩) P.length pc, .slice LA ln lc] 24)).alloc (.cells #[.slice (some ⟨wb, wo, none⟩) W.length wc] 22)).alloc (.cells #[i64 (v : Int)] 3)) (w.heap.size + 2 + 1 + 1) 3 [i64 (v : Int)] := Blk.made (by simp [hsz]) rfl
 have hbZ5 := ((hbZ.alloc (.cells #[i64 t, i64 (s : Int), i64 g, i64 lm, i64 r, i64 (K : Int), .slice (some ⟨pb, po, none⟩) P.length pc, .slice LA ln lc] 24)).alloc (.cells #[.slice (some ⟨wb, wo, none⟩) W.length wc] 22)).alloc (.cells #[i64 (v : Int)] 3)
 have hk5 := ((hk2.alloc (.cells #[i64 t, i64 (s : Int), i64 g, i64 lm, i64 r, i64 (K : Int), .slice (some ⟨pb, po, none⟩) P.length pc, .slice LA ln lc] 24)).alloc (.cells #[.slice (some ⟨wb, wo, none⟩) W.length wc] 22)).alloc (.cells #[i64 (v : Int)] 3)
 have hz5 : (((w2.alloc (.cells #[i64 t, i64 (s : Int), i64 g, i64 lm, i64 r, i64 (K : Int), .slice (some ⟨pb, po, none⟩) P.length pc, .slice LA ln lc] 24)).alloc (.cells #[.slice (some ⟨wb, wo, none⟩) W.length wc] 22)).alloc (.cells #[i64 (v : Int)] 3)).heap.size = w.heap.size + 5 := by simp [hsz]
 rw [hsz]
 clear hbZ hk2 hsz
 generalize ((w2.alloc (.cells #[i64 t, i64 (s : Int), i64 g, i64 lm, i64 r, i64 (K : Int), .slice (some ⟨pb, po, none⟩) P.length pc, .slice LA ln lc] 24)).alloc (.cells #[.slice (some ⟨wb, wo, none⟩) W.length wc] 22)).alloc (.cells #[i64 (v : Int)] 3) = w5 at *
 have hP5 : ∀ i, i < P.length → w5.cell? ⟨pb, po + i, none⟩ = some (i64 (rd P i)) := fun i hi => (cell_old hk5 hpz (fun h => h) _).trans (hP i hi)
 have hW5 : ∀ i, i < W.length → w5.cell? ⟨wb, wo + i, none⟩ = some (i64 (rd W i)) := fun i hi => (cell_old hk5 hwz (fun h => h) _).trans (hWc i hi)
 clear hP hWc
 gi_wp2
 refine wpIn_rangeFunc_ownF rfl (by omega) (gf := 101) (lb := #[.pointer (some ⟨w.heap.size + 2, 0, none⟩), .pointer (some ⟨w.heap.size + 2 + 1, 0, none⟩), .pointer (some ⟨w.heap.size + 2 + 1 + 1, 0, none⟩)]) rfl trivial (enters_of Tryz.func101 (by kernel_rfl) rfl)
  (under_stops _ (by omega) t g lm r s K P pb po pc LA ln lc W wb wo wc q v (w.heap.size + 2) (w.heap.size + 2 + 1) (w.heap.size + 2 + 1 + 1) hs hK h0 hp ho HQ.out hW hWb w5 c1 c2 c3 hP5 hW5)
  (fun h k => h.trans k) (fun W l o o' hl _ _ _ => KS.put o' (fun h => by unfold unS at h; omega)) (Below.refl _ _) (fun _ => rfl)
  (fun pre W => Blk W (w.heap.size + 1) 3 [i64 (sumW pre)] ∧ Below w.heap.size w W)
  (fun _ _ _ => False)
  (OwnFrom.and (I := fun (pre : List Int) W => Blk W (w.heap.size + 1) 3 [i64 (sumW pre)]) (Own.from (I := fun (pre : List Int) W => Blk W (w.heap.size + 1) 3 [i64 (sumW pre)]) (fun s A B row hs hg hr => blk_kept hs hg hr) _) (ownFrom_below (Nat.le_refl _) (by omega)))
  (fun _ _ _ _ _ hs _ _ => hs)
  ⟨hbZ5, keep0_below hk5 (Nat.le_refl _)⟩
  (fun x => { tmps := #[.agg #[i64 t, i64 (s : Int), i64 g, i64 lm, i64 r, i64 (K : Int), .slice (some ⟨pb, po, none⟩) P.length pc, .slice LA ln lc], .slice (some ⟨wb, wo, none⟩) W.length wc, i64 (v : Int), .pointer (some ⟨w.heap.size, 0, none⟩), undef, undef, i64 0, .pointer (some ⟨w.heap.size + 1, 0, none⟩), .int .i64 x, .agg #[i64 t, i64 (s : Int), i64 g, i64 lm, i64 r, i64 (K : Int), .slice (some ⟨pb, po, none⟩) P.length pc, .slice LA ln lc], .slice (some ⟨wb, wo, none⟩) W.length wc, i64 (v : Int), .func (.func 101) #[] #[.pointer (some ⟨w.heap.size + 2, 0, none⟩), .pointer (some ⟨w.heap.size + 2 + 1, 0, none⟩), .pointer (some ⟨w.heap.size + 2 + 1 + 1, 0, none⟩)], .int .i64 x, undef, undef, undef, undef], defers := [] }) ?assign ?body ?done ?stop
 case assign =>
  intro l x W K hK
  gi_wp2
  exact hK
 case body =>
  rintro l pre x W ⟨hZ, hbl⟩ _
  have qZ := hZ.k1
  gi_wp2
  exact ⟨KeepsOthers.setCell _ _ _, KS.set (fun h => by unfold unS at h; omega), by rw [sumW_snoc, show IntKind.i64.wrap (sumW pre + x) = wrap64 (sumW pre + x) from by unfold wrap64; rw [IntKind.wrap_i64]]; exact hZ.set 0 _, hbl.setCell (p := ⟨w.heap.size + 1, 0, none⟩) (by simp) _⟩
 case done =>
  rintro D ys W hD rfl ⟨hZ, hbl⟩ hK
  rw [HU.out] at hZ
  have qZ := hZ.k1
  gi_wp2
  refine ⟨by simp, .inl ⟨_, _, rfl, run_takeDeferred hK, ?_⟩⟩
  exact ⟨_, results_tmp rfl _ _ _, rfl, below_keep0 (hbl.trans (belowK_b (w := w) (Nat.le_refl _) W D _ _ (by omega) hK rfl rfl))⟩
 case stop =>
  rintro D c pre W _ _ h _
  exact h.elim
end Go.Proofs.YthaceckccobgeaaGreat

namespace Go.Proofs.YthaceckccobgeaaGreat
open Go.RowKit
set_option linter.unusedVariables false
set_option linter.unusedSimpArgs false
section
variable (av le : Nat) (n lim : Int)
variable {av le n lim}
def ownD (a : Acc) : Int := if a.kind = 2 then a.a else if a.kind = 3 ∧ a.ok = true then a.b - a.a else 0
def pOwn (n : Int) (t : PS) : Int := if t.next = 7 then (if t.bad = true then 0 else -n) else if 4 ≤ t.next then -(n + t.extra) else 0
theorem pOwn_step {X : Int} {t : PS} (h : PInv av le n lim X t) (h7 : t.next < 7) : ∃ a, (pNext av le n lim t).L = t.L ++ [a] ∧ ownD a = pOwn n (pNext av le n lim t) - pOwn n t ∧ (a.w = av ∨ a.w = le) ∧ (1 ≤ a.kind ∧ a.kind ≤ 3) ∧ -4194304 ≤ ownD a ∧ ownD a ≤ 4194304 := by
 obtain ⟨W, L, next, had, saw, extra, bad⟩ := t
 obtain ⟨la, ll, ne, n1, m1, wl, wa, nx, s1, s3, s4, s5, b⟩ := h
 simp only at *
 obtain rfl : bad = false := by
  cases bad with
  | false => rfl
  | true => have := b rfl; omega
 have hx : next = 0 ∨ next = 1 ∨ next = 2 ∨ next = 3 ∨ next = 4 ∨ next = 5 ∨ next = 6 := by omega
 rcases hx with rfl | rfl | rfl | rfl | rfl | rfl | rfl
 · by_cases c : n ≤ rd W le <;> refine ⟨_, rfl, ?_⟩ <;> simp [pNext, pOwn, ownD, c] <;> omega
 · have := s1 rfl
   by_cases c : rd W le = had <;> refine ⟨_, rfl, ?_⟩ <;> simp [pNext, pOwn, ownD, c] <;> omega
 · by_cases c : rd W av < n
   · refine ⟨⟨1, av, rd W av, 0, false⟩, by simp [pNext, c], ?_⟩
     simp [pNext, pOwn, ownD, c] <;> omega
   · refine ⟨⟨1, av, rd W av, 0, false⟩, by simp [pNext, c], ?_⟩
     simp [pNext, pOwn, ownD, c] <;> omega
 · obtain ⟨q1, q2, q3⟩ := s3 rfl
   by_cases c : rd W av = saw
   · by_cases c2 : extra = 0 <;> refine ⟨_, rfl, ?_⟩ <;> simp [pNext, pOwn, ownD, c, c2] <;> omega
   · refine ⟨_, rfl, ?_⟩
     simp [pNext, pOwn, ownD, c] <;> omega
 · have := s4 (by simp)
   by_cases c : rd W le + extra ≤ lim <;> refine ⟨_, rfl, ?_⟩ <;> simp [pNext, pOwn, ownD, c] <;> omega
 · have := s4 (by simp)
   have := s5 rfl
   by_cases c : rd W le = had <;> refine ⟨_, rfl, ?_⟩ <;> simp [pNext, pOwn, ownD, c] <;> omega
 · have := s4 (by simp)
   refine ⟨_, rfl, ?_⟩
   simp [pNext, pOwn, ownD] <;> omega
end
end Go.Proofs.YthaceckccobgeaaGreat

namespace Go.Proofs.YthaceckccobgeaaGreat
open Go.RowKit
set_option linter.unusedVariables false
set_option linter.unusedSimpArgs false
set_option maxRecDepth 100000
def leftN (W : List Int) (av : Nat) : Nat → Int
 | 0 => rd W av
 | u + 1 => leftN W av u + rd W (av + 1 + u)
theorem leftN_out (W : List Int) (av i : Nat) (x : Int) (s : Nat) (h : i < av ∨ av + s < i) : leftN (W.set i x) av s = leftN W av s := by
 induction s with
 | zero => rw [leftN, leftN, rd_set, if_neg (by omega)]
 | succ s ih => rw [leftN, leftN, ih (by omega), rd_set, if_neg (by omega)]
theorem leftN_set (W : List Int) (av i : Nat) (x : Int) (s : Nat) (h1 : av ≤ i) (h2 : i ≤ av + s) (h3 : i < W.length) : leftN (W.set i x) av s = leftN W av s - rd W i + x := by
 induction s with
 | zero =>
  have e : i = av := by omega
  subst e
  rw [leftN, leftN, rd_set, if_pos ⟨rfl, h3⟩]; omega
 | succ s ih =>
  rw [leftN, leftN]
  by_cases e : i = av + 1 + s
  · subst e
    rw [leftN_out W av _ x s (by omega), rd_set, if_pos ⟨rfl, h3⟩]; omega
  · rw [ih (by omega), rd_set, if_neg (by omega)]; omega
section
variable {av u s : Nat} {n lim X : Int}
theorem leftN_step {t : PS} (h : PInv av (av + 1 + u) n lim X t) (hu : u < s) (h7 : t.next < 7) :
 leftN (pNext av (av + 1 + u) n lim t).W av s = leftN t.W av s + (pOwn n (pNext av (av + 1 + u) n lim t) - pOwn n t) := by
 obtain ⟨W, L, next, had, saw, extra, bad⟩ := t
 obtain ⟨la, ll, ne, n1, m1, wl, wa, nx, s1, s3, s4, s5, b⟩ := h
 simp only at *
 obtain rfl : bad = false := by
  cases bad with
  | false => rfl
  | true => have := b rfl; omega
 have hA := fun x => leftN_set W av av x s (by omega) (by omega) la
 have hL := fun x => leftN_set W av (av + 1 + u) x s (by omega) (by omega) ll
 have hx : next = 0 ∨ next = 1 ∨ next = 2 ∨ next = 3 ∨ next = 4 ∨ next = 5 ∨ next = 6 := by omega
 rcases hx with rfl | rfl | rfl | rfl | rfl | rfl | rfl
 · by_cases c : n ≤ rd W (av + 1 + u) <;> simp [pNext, pOwn, c]
 · by_cases c : rd W (av + 1 + u) = had <;> simp [pNext, pOwn, c, casW, hL] <;> omega
 · by_cases c : rd W av < n <;> simp [pNext, pOwn, c]
 · obtain ⟨q1, q2, q3⟩ := s3 rfl
   by_cases c : rd W av = saw
   · by_cases c2 : extra = 0 <;> simp [pNext, pOwn, c, c2, casW, hA] <;> omega
   · simp [pNext, pOwn, c, casW]
 · by_cases c : rd W (av + 1 + u) + extra ≤ lim <;> simp [pNext, pOwn, c]
 · by_cases c : rd W (av + 1 + u) = had <;> simp [pNext, pOwn, c, casW, hL] <;> omega
 · simp [pNext, pOwn, hA] <;> omega
end
end Go.Proofs.YthaceckccobgeaaGreat

namespace Go.Proofs.YthaceckccobgeaaGreat
open Go.RowKit
set_option linter.unusedVariables false
set_option linter.unusedSimpArgs false
set_option maxRecDepth 100000
def subW (x : Int) (V : List Int) : Int := V.foldl (fun a y => IntKind.i64.wrap (a - y)) x
theorem subW_snoc (x : Int) (V : List Int) (y : Int) : subW x (V ++ [y]) = IntKind.i64.wrap (subW x V - y) := by simp [subW]
theorem wrap_i64_eq (x : Int) : IntKind.i64.wrap x = wrap64 x := by unfold wrap64; rw [IntKind.wrap_i64]
theorem wrap64_sub (a b : Int) : wrap64 (wrap64 a - b) = wrap64 (a - b) := by unfold wrap64; omega
theorem subW_left (x : Int) (W : List Int) (av : Nat) : ∀ s, av + 1 + s ≤ W.length → subW x ((W.drop av).take (1 + s)) = wrap64 (x - leftN W av s)
 | 0, h => by
  have e : (W.drop av).take (1 + 0) = [rd W av] := by
   have h1 : av < W.length := by omega
   rw [List.drop_eq_getElem_cons h1, Nat.add_zero, List.take_succ_cons, List.take_zero]
   simp [rd, h1]
  rw [e]
  simp only [subW, List.foldl_cons, List.foldl_nil, leftN, wrap_i64_eq]
 | s + 1, h => by
  have ih := subW_left x W av s (by omega)
  have h1 : 1 + s < (W.drop av).length := by rw [List.length_drop]; omega
  have e : (W.drop av).take (1 + (s + 1)) = (W.drop av).take (1 + s) ++ [rd W (av + 1 + s)] := by
   rw [show 1 + (s + 1) = 1 + s + 1 from rfl, List.take_succ_eq_append_getElem h1, List.getElem_drop]
   have h2 : av + (1 + s) < W.length := by omega
   have h3 : av + 1 + s = av + (1 + s) := by omega
   rw [h3]
   simp [rd, h2]
  rw [e, subW_snoc, ih, leftN, wrap_i64_eq, wrap64_sub]
  congr 1
  omega
set_option maxHeartbeats 1000000 in
theorem held_less (x : Int) (b o n c : Nat) (V : List Int) (w : World) (hn : n = V.length) (hV : ∀ i, i < V.length → w.cell? ⟨b, o + i, none⟩ = some (i64 (rd V i))) (hl : V.length ≤ 1000000) :
 Calls Tryz.prog 62 #[i64 x, .slice (some ⟨b, o, none⟩) n c] w (Ret (i64 (subW x V)) w) := by
 subst hn
 have HV := hid hV
 clear hV
 go_enter Tryz.func62, Tryz.ntmps62
 go_wp2_with fail
 go_loopw [0, 9] (fun v0 v9 wr => ∃ i : Nat, i ≤ V.length ∧ v9 = .int .i64 i ∧ v0 = .int .i64 (subW x (V.take i)) ∧ Keep0 w wr) (fun _ v _ => V.length - (intOf v).toNat)
 case atStart => exact ⟨0, Nat.zero_le _, rfl, rfl, Keep.refl _ _⟩
 case round =>
  obtain ⟨i, hi, rfl, rfl, hk⟩ := hrel
  have HK := hid hk
  clear hk
  by_cases hlt : i < V.length
  · have hc0 := HV.out i hlt
    have hbz : b < w.heap.size := by have := World.block_lt_of_cell? _ _ hc0; simpa using this
    have hc := (cell_old HK.out hbz (fun h => h) _).trans hc0
    have hbz2 := Nat.lt_of_lt_of_le hbz HK.out.size
    have hn : subW x (V.take (i + 1)) = IntKind.i64.wrap (subW x (V.take i) - rd V i) := by
     rw [List.take_succ_eq_append_getElem hlt, subW_snoc]
     simp [rd, hlt]
    have HN := hid hn
    clear hn hc0
    generalize subW x (V.take i) = z at *
    go_wp2_with fail
    go_roundw
    case rel => exact ⟨i + 1, by omega, by go_num, by rw [HN.out, wrap_i64_eq], HK.out⟩
    case measure => simp [intOf]; omega
  · obtain rfl : i = V.length := by omega
    rw [List.take_length]
    generalize subW x V = z at *
    go_wp2_with fail
    go_ret
    exact ⟨rfl, HK.out⟩
set_option maxHeartbeats 4000000 in
theorem usage_Held (t g lm r : Int) (s K : Nat) (P : List Int) (pb po pc : Nat) (LA : Option Addr) (ln lc : Nat) (W : List Int) (wb wo wc q v : Nat) (w : World) (hs : 1 ≤ s ∧ s ≤ 8) (hK : K ≤ 100) (h0 : 0 < P.length) (hp : P.length ≤ 1000) (ho : ParOK P) (hq : q = P.length * (6 + 2 * s)) (hW : q + 2 * K ≤ W.length) (hWb : W.length ≤ 1000000) (hP : ∀ i, i < P.length → w.cell? ⟨pb, po + i, none⟩ = some (i64 (rd P i))) (hWc : ∀ i, i < W.length → w.cell? ⟨wb, wo + i, none⟩ = some (i64 (rd W i)))
 (hv : v < P.length) (hcap : W.length ≤ wc ∧ wc ≤ 9223372036854775807) :
 Calls Tryz.prog 13 #[.agg #[i64 t, i64 (s : Int), i64 g, i64 lm, i64 r, i64 (K : Int), .slice (some ⟨pb, po, none⟩) P.length pc, .slice LA ln lc], .slice (some ⟨wb, wo, none⟩) W.length wc, i64 (v : Int)] w (Ret (i64 (wrap64 (rd W (v * (6 + 2 * s)) - leftN W (v * (6 + 2 * s) + 1) s - usedN P W q K v))) w) := by
 have hpz : pb < w.heap.size := by have := World.block_lt_of_cell? _ _ (hP 0 h0); simpa using this
 have hvq : v * (6 + 2 * s) + (6 + 2 * s) ≤ q := by
  have h1 : (v + 1) * (6 + 2 * s) ≤ P.length * (6 + 2 * s) := Nat.mul_le_mul_right _ hv
  rw [Nat.add_mul, Nat.one_mul] at h1
  omega
 have hwz : wb < w.heap.size := by
  have := World.block_lt_of_cell? _ _ (hWc 0 (by omega))
  simpa using this
 have hln : ((v * (6 + 2 * s) : Nat) : Int) = (v : Int) * (6 + 2 * (s : Int)) := by push_cast; rfl
 have HUS := hid (fun w' (hk : Keep0 w w') => usage_Used t g lm r s K P pb po pc LA ln lc W wb wo wc q v w' hs hK h0 hp ho hq hW hWb (fun i hi => (cell_old hk hpz (fun h => h) _).trans (hP i hi)) (fun i hi => (cell_old hk hwz (fun h => h) _).trans (hWc i hi)))
 have hvq2 : v * (6 + 2 * s) + (6 + 2 * s) ≤ W.length := by omega
 have hsl := subW_left (rd W (v * (6 + 2 * s))) W (v * (6 + 2 * s) + 1) s (by omega)
 have HLE := hid (fun w' (hk : Keep0 w w') => held_less (rd W (v * (6 + 2 * s))) wb (wo + (v * (6 + 2 * s) + 1)) (1 + s) (wc - (v * (6 + 2 * s) + 1)) ((W.drop (v * (6 + 2 * s) + 1)).take (1 + s)) w' (by rw [List.length_take, List.length_drop]; omega) (fun i hi => by
  have hi2 : i < 1 + s := by rw [List.length_take] at hi; omega
  have h3 := (cell_old hk hwz (fun h => h) _).trans (hWc (v * (6 + 2 * s) + 1 + i) (by omega))
  rw [show wo + (v * (6 + 2 * s) + 1) + i = wo + (v * (6 + 2 * s) + 1 + i) from by omega, h3]
  congr 2
  simp [rd, List.getElem?_take, hi2]) (by rw [List.length_take, List.length_drop]; omega))
 rw [hsl] at HLE
 have HLM := hid (fun w' => plan_Limit t (s : Int) g lm r (K : Int) (some ⟨pb, po, none⟩) P.length pc LA ln lc (v : Int) w' (by omega) (by omega) (by omega) (by omega))
 have HAV := hid (fun w' => plan_Avail t (s : Int) g lm r (K : Int) (some ⟨pb, po, none⟩) P.length pc LA ln lc (v : Int) w' (by omega) (by omega) (by omega) (by omega))
 rw [← hln] at HLM HAV
 have HLI := hid (hWc (v * (6 + 2 * s)) (by omega))
 clear hWc hP hsl hln hq ho
 have hcw : v * (6 + 2 * s) + (6 + 2 * s) ≤ wc := by omega
 have hwb2 : v * (6 + 2 * s) ≤ 1000000 := by omega
 generalize v * (6 + 2 * s) = li at *
 have HRES := hid (show IntKind.i64.wrap (wrap64 (rd W li - leftN W (li + 1) s) - usedN P W q K v) = wrap64 (rd W li - leftN W (li + 1) s - usedN P W q K v) from by rw [wrap_i64_eq, wrap64_sub])
 generalize wrap64 (rd W li - leftN W (li + 1) s - usedN P W q K v) = res at *
 generalize usedN P W q K v = us at *
 generalize wrap64 (rd W li - leftN W (li + 1) s) = lf at *
 generalize rd W li = lim at *
 have hlw : li < W.length := by omega
 have e1 : 0 ≤ (li : Int) + 2 + (s : Int) := by omega
 have e2 : (li : Int) + 2 + (s : Int) ≤ (wc : Int) := by omega
 have e3 : 0 ≤ (li : Int) + 1 := by omega
 have e4 : (li : Int) + 1 ≤ max ((li : Int) + 2 + (s : Int)) 0 := by omega
 have e5 : ¬ wc = li + 1 := by omega
 have e6 : ((li : Int) + 2 + (s : Int)).toNat - (li + 1) = 1 + s := by omega
 have y1 : IntKind.i64.wrap ((li : Int) + 1 + 1) = (li : Int) + 2 := by rw [IntWalk.i64_in _ (by omega)]; omega
 have y2 : IntKind.i64.wrap ((li : Int) + 2 + (s : Int)) = (li : Int) + 2 + (s : Int) := IntWalk.i64_in _ (by omega)
 go_enter Tryz.func13, Tryz.ntmps13
 have HCB := hid (show Blk (w.alloc (.cells #[i64 t, i64 (s : Int), i64 g, i64 lm, i64 r, i64 (K : Int), .slice (some ⟨pb, po, none⟩) P.length pc, .slice LA ln lc] 24)) w.heap.size 24 [i64 t, i64 (s : Int), i64 g, i64 lm, i64 r, i64 (K : Int), .slice (some ⟨pb, po, none⟩) P.length pc, .slice LA ln lc] from Blk.made rfl rfl)
 have HK0 := hid (show Keep0 w (w.alloc (.cells #[i64 t, i64 (s : Int), i64 g, i64 lm, i64 r, i64 (K : Int), .slice (some ⟨pb, po, none⟩) P.length pc, .slice LA ln lc] 24)) from (Keep.refl _ _).alloc _)
 go_wp2_with fail
 refine (HAV.out _).mono ?_
 rintro e w2 ⟨rfl, hk⟩
 have HK2 : Hid (Keep0 w w2) := hid (Keep0.step HK0.out hk)
 have HCB2 := hid (hk.blk HCB.out (fun h => h))
 clear hk HCB HK0 HAV
 have HCB := HCB2
 clear HCB2
 go_upto_region 3 with fail
 apply wp_region_text (WI := fun S wx => Keep0 w2 wx) (by kernel_rfl) (by kernel_rfl)
 case hob =>
  iterate 4
   apply Oblig.cons
   case h =>
    intro S w1 hwi hSi hd hcl
    apply StepOk.intro
    intro K hK
    have qb := (hwi.blk HCB.out (fun h => h)).k8
    have cl := (cell_old (Keep0.step HK2.out hwi) hwz (fun h => h) _).trans HLI.out
    have hlz := Nat.lt_of_lt_of_le hwz (Keep0.step HK2.out hwi).size
    go_simp
    apply hK
    · rfl
    · conv => (lhs; whnf)
    · exact hwi
   simp only [put_lit, put_none]
   try dsimp only [List.set_cons_succ, List.set_cons_zero]
  apply Oblig.cons
  case h =>
   intro S w1 hwi hSi hd hcl
   apply StepOk.intro
   intro K hK
   have qb := (hwi.blk HCB.out (fun h => h)).k8
   have cl := (cell_old (Keep0.step HK2.out hwi) hwz (fun h => h) _).trans HLI.out
   have hlz := Nat.lt_of_lt_of_le hwz (Keep0.step HK2.out hwi).size
   go_simp
   refine (HLM.out _).mono ?_
   rintro e w2 ⟨rfl, hk⟩
   apply hK
   · rfl
   · conv => (lhs; whnf)
   · exact Keep0.step hwi hk
  simp only [put_lit, put_none]
  try dsimp only [List.set_cons_succ, List.set_cons_zero]
  iterate 10
   apply Oblig.cons
   case h =>
    intro S w1 hwi hSi hd hcl
    apply StepOk.intro
    intro K hK
    have qb := (hwi.blk HCB.out (fun h => h)).k8
    have cl := (cell_old (Keep0.step HK2.out hwi) hwz (fun h => h) _).trans HLI.out
    have hlz := Nat.lt_of_lt_of_le hwz (Keep0.step HK2.out hwi).size
    go_simp
    apply hK
    · rfl
    · conv => (lhs; whnf)
    · exact hwi
   simp only [put_lit, put_none]
   try dsimp only [List.set_cons_succ, List.set_cons_zero]
  apply Oblig.cons
  case h =>
   intro S w1 hwi hSi hd hcl
   apply StepOk.intro
   intro K hK
   have qb := (hwi.blk HCB.out (fun h => h)).k8
   have cl := (cell_old (Keep0.step HK2.out hwi) hwz (fun h => h) _).trans HLI.out
   have hlz := Nat.lt_of_lt_of_le hwz (Keep0.step HK2.out hwi).size
   go_simp
   refine (HLE.out _ (Keep0.step HK2.out hwi)).mono ?_
   rintro e w2 ⟨rfl, hk⟩
   apply hK
   · rfl
   · conv => (lhs; whnf)
   · exact Keep0.step hwi hk
  simp only [put_lit, put_none]
  try dsimp only [List.set_cons_succ, List.set_cons_zero]
  iterate 3
   apply Oblig.cons
   case h =>
    intro S w1 hwi hSi hd hcl
    apply StepOk.intro
    intro K hK
    have qb := (hwi.blk HCB.out (fun h => h)).k8
    have cl := (cell_old (Keep0.step HK2.out hwi) hwz (fun h => h) _).trans HLI.out
    have hlz := Nat.lt_of_lt_of_le hwz (Keep0.step HK2.out hwi).size
    go_simp
    apply hK
    · rfl
    · conv => (lhs; whnf)
    · exact hwi
   simp only [put_lit, put_none]
   try dsimp only [List.set_cons_succ, List.set_cons_zero]
  apply Oblig.cons
  case h =>
   intro S w1 hwi hSi hd hcl
   apply StepOk.intro
   intro K hK
   have qb := (hwi.blk HCB.out (fun h => h)).k8
   have cl := (cell_old (Keep0.step HK2.out hwi) hwz (fun h => h) _).trans HLI.out
   have hlz := Nat.lt_of_lt_of_le hwz (Keep0.step HK2.out hwi).size
   go_simp
   refine (HUS.out _ (Keep0.step HK2.out hwi)).mono ?_
   rintro e w2 ⟨rfl, hk⟩
   apply hK
   · rfl
   · conv => (lhs; whnf)
   · exact Keep0.step hwi hk
  simp only [put_lit, put_none]
  try dsimp only [List.set_cons_succ, List.set_cons_zero]
  iterate 2
   apply Oblig.cons
   case h =>
    intro S w1 hwi hSi hd hcl
    apply StepOk.intro
    intro K hK
    have qb := (hwi.blk HCB.out (fun h => h)).k8
    have cl := (cell_old (Keep0.step HK2.out hwi) hwz (fun h => h) _).trans HLI.out
    have hlz := Nat.lt_of_lt_of_le hwz (Keep0.step HK2.out hwi).size
    go_simp
    apply hK
    · rfl
    · conv => (lhs; whnf)
    · exact hwi
   simp only [put_lit, put_none]
   try dsimp only [List.set_cons_succ, List.set_cons_zero]
  exact Oblig.nil
 case h0 =>
  exact (Keep.refl _ _).drew
 case hend =>
  intro S wx hwi hall
  have HKX := hid hwi
  clear hwi hall
  go_wp2_with fail
  go_ret
  exact ⟨by rw [← HRES.out]; rfl, Keep0.step HK2.out HKX.out⟩
end Go.Proofs.YthaceckccobgeaaGreat

namespace Go.Proofs.YthaceckccobgeaaGreat
open Go.RowKit
set_option linter.unusedVariables false
set_option linter.unusedSimpArgs false
set_option maxRecDepth 100000
section
variable {τ : Type}
set_option maxHeartbeats 4000000 in
theorem ref12_Play (Sys : Nat → World → τ → Prop) (stp : τ → τ × Bool) (pk : τ → Nat → Int → τ) (len : Nat) (y : Nat) (m : Nat) (S0 : Nat → Prop) (N : Nat) (l : List Pk) (A0 : Option Addr) (b o c : Nat) (most : Nat) (w : World) (t : τ)
 (hmost : most ≤ 1000000) (hl : l.length ≤ 1000000) (hlen : len ≤ 1000000) (hN : N ≤ w.heap.size) (hA0 : 0 < l.length → A0 = some ⟨b, o, none⟩ ∧ b < N ∧ ¬ S0 b)
 (hcells : ∀ i (h : i < l.length), w.cell? ⟨b, o + i * 3, none⟩ = some (i64 l[i].at_) ∧ w.cell? ⟨b, o + i * 3 + 1, none⟩ = some (i64 l[i].w) ∧ w.cell? ⟨b, o + i * 3 + 2, none⟩ = some (i64 l[i].x))
 (hmem : ∀ n w t, Sys n w t → ∃ A c lv, Blk w m 42 [.slice A len c, lv])
 (hkeep : ∀ n w w' t, Sys n w t → Keep (fun _ => False) w w' → Sys n w' t)
 (hpoke : ∀ n w t (i x : Int), (∃ p ∈ l, p.w = i ∧ p.x = x) → Sys n w t → 0 ≤ i → i < len → Calls Tryz.prog 76 #[ptr m, i64 i, i64 x] w fun e w' => e = .returned (.tuple #[]) ∧ Sys n w' (pk t i.toNat x) ∧ Keep (fun k => S0 k ∨ N ≤ k) w w')
 (hstep : ∀ n w t, n < most → Sys n w t → Calls Tryz.prog 12 #[ptr y, ptr m] w fun e w' => e = .returned (.bool (stp t).2) ∧ Sys (n + 1) w' (stp t).1 ∧ Keep (fun k => S0 k ∨ N ≤ k) w w')
 (hs : Sys 0 w t) :
 Calls Tryz.prog 39 #[ptr m, ptr y, .slice A0 l.length c, i64 most] w fun e w' =>
  e = .returned (.tuple #[i64 (playF stp pk len l most 0 t).2.1, .bool (playF stp pk len l most 0 t).2.2]) ∧ (∃ n, Sys n w' (playF stp pk len l most 0 t).1) ∧ Keep (fun k => S0 k ∨ N ≤ k) w w' := by
 go_enter Tryz.func39, Tryz.ntmps39
 go_wp2_with fail
 go_loopw [10] (fun v wr => ∃ n : Nat, n ≤ most ∧ v = .int .i64 n ∧ ∃ t', Sys n wr t' ∧ playF stp pk len l (most - n) n t' = playF stp pk len l most 0 t ∧ Keep (fun k => S0 k ∨ N ≤ k) w wr) (fun v _ => most - (intOf v).toNat)
 case atStart => exact ⟨0, Nat.zero_le _, rfl, t, hs, rfl, Keep.refl _ _⟩
 case round =>
  obtain ⟨n, hn, rfl, t', hs', hpl, hk⟩ := hrel
  have HPL := hid hpl
  have HS' := hid hs'
  have HK := hid hk
  clear hpl hs' hk hs
  by_cases hlt : n < most
  · go_wp2_with fail
    obtain ⟨wo, rfl⟩ : ∃ wo : World, wo = wr := ⟨_, rfl⟩
    go_loopw [11] (fun v wi => ∃ j : Nat, j ≤ l.length ∧ v = .int .i64 j ∧ Sys n wi (pokeAll pk len n (l.take j) t') ∧ Keep (fun k => S0 k ∨ N ≤ k) wo wi) (fun v _ => l.length - (intOf v).toNat)
    case atStart => exact ⟨0, Nat.zero_le _, rfl, HS'.out, Keep.refl _ _⟩
    case round =>
     obtain ⟨j, hj, rfl, hsj, hkj⟩ := hrel
     have HSJ := hid hsj
     have HKJ := hid hkj
     clear hsj hkj
     by_cases hjl : j < l.length
     · obtain ⟨rfl, hb, hbS⟩ := hA0 (by omega)
       have hbw : b < wo.heap.size := Nat.lt_of_lt_of_le hb (Nat.le_trans hN HK.out.size)
       have hbS' : ¬ (S0 b ∨ N ≤ b) := fun h => h.elim hbS (by omega)
       obtain ⟨a1, a2, a3⟩ := hcells j hjl
       rw [← cell_old HK.out (Nat.lt_of_lt_of_le hb hN) hbS'] at a1 a2 a3
       have hnext : pokeAll pk len n (l.take (j + 1)) t' = if l[j].at_ = n ∧ 0 ≤ l[j].w ∧ l[j].w < (len : Int) then pk (pokeAll pk len n (l.take j) t') l[j].w.toNat l[j].x else pokeAll pk len n (l.take j) t' := by
        exact pokeAll_snoc pk len n l j hjl t'
       have hinl : ∃ p ∈ l, p.w = l[j].w ∧ p.x = l[j].x := ⟨l[j], List.getElem_mem hjl, rfl, rfl⟩
       have HIN := hid hinl
       clear hinl
       generalize l[j].at_ = pa at *
       generalize l[j].w = pw at *
       generalize l[j].x = px at *
       have HN := hid hnext
       clear hnext
       have HCL := hid (fun (wx : World) (hk : Keep (fun k => S0 k ∨ N ≤ k) wo wx) => (⟨(cell_old hk hbw hbS' _).trans a1, (cell_old hk hbw hbS' _).trans a2, (cell_old hk hbw hbS' _).trans a3, Nat.lt_of_lt_of_le hbw hk.size⟩ : wx.cell? ⟨b, o + j * 3, none⟩ = some (i64 pa) ∧ wx.cell? ⟨b, o + j * 3 + 1, none⟩ = some (i64 pw) ∧ wx.cell? ⟨b, o + j * 3 + 2, none⟩ = some (i64 px) ∧ b < wx.heap.size))
       obtain ⟨mA, mc, mlv, hmb⟩ := hmem _ _ _ HSJ.out
       have HMB := hid hmb
       clear hmb a1 a2 a3
       by_cases hA : pa = n
       · have g1 : (pa == (n : Int)) = true := by simpa using hA
         have HA := hid hA
         clear hA
         by_cases hB : 0 ≤ pw
         · have g2 : decide (0 ≤ pw) = true := by simpa using hB
           by_cases hC : pw < (len : Int)
           · have g3 : decide (pw < (len : Int)) = true := by simpa using hC
             go_wp2_with fail
             apply wp_region_text (WI := fun S wx => Keep0 wr wx) (by kernel_rfl) (by kernel_rfl)
             case hob =>
              iterate 28
               apply Oblig.cons
               case h =>
                intro S w1 hwi hSi hd hcl
                apply StepOk.intro
                intro K hK
                obtain ⟨a1, a2, a3, hbz⟩ := HCL.out _ (HKJ.out.trans (hwi.mono (T := fun k => S0 k ∨ N ≤ k) (fun _ h => h.elim)) (fun _ _ h => h))
                have qm := (hwi.blk HMB.out (fun h => h)).k2
                go_simp
                apply hK
                · rfl
                · conv => (lhs; whnf)
                · exact hwi
               simp only [put_lit, put_none]
               try dsimp only [List.set_cons_succ, List.set_cons_zero]
              exact Oblig.nil
             case h0 =>
              exact (Keep.refl _ _).drew
             case hend =>
              intro S wx hwi hall
              have HKX := hid (HKJ.out.trans (hwi.mono (T := fun k => S0 k ∨ N ≤ k) (fun _ h => h.elim)) (fun _ _ h => h))
              have HSX := hid (hkeep _ _ _ _ HSJ.out hwi)
              obtain ⟨wy, rfl⟩ : ∃ wy : World, wy = wx := ⟨_, rfl⟩
              clear hwi hall
              go_wp2_with fail
              apply wp_region_text (WI := fun S wx => Keep (fun k => S0 k ∨ N ≤ k) wo wx ∧ (S 11 = false → Sys n wx (pokeAll pk len n (l.take j) t')) ∧ (S 11 = true → Sys n wx (pk (pokeAll pk len n (l.take j) t') pw.toNat px))) (by kernel_rfl) (by kernel_rfl)
              case hob =>
               iterate 11
                apply Oblig.cons
                case h =>
                 intro S w1 hwi hSi hd hcl
                 apply StepOk.intro
                 intro K hK
                 obtain ⟨a1, a2, a3, hbz⟩ := HCL.out _ hwi.1
                 go_simp
                 apply hK
                 · rfl
                 · conv => (lhs; whnf)
                 · exact hwi
                simp only [put_lit, put_none]
                try dsimp only [List.set_cons_succ, List.set_cons_zero]
               apply Oblig.cons
               case h =>
                intro S w1 hwi hSi hd hcl
                apply StepOk.intro
                intro K hK
                obtain ⟨a1, a2, a3, hbz⟩ := HCL.out _ hwi.1
                go_simp
                refine (hpoke n _ _ pw px HIN.out (hwi.2.1 hSi) hB hC).mono ?_
                rintro e w2 ⟨rfl, hs2, hk2⟩
                apply hK
                · rfl
                · conv => (lhs; whnf)
                · exact ⟨hwi.1.trans hk2 (fun _ _ h => h), fun h => by simp [upd] at h, fun _ => hs2⟩
               simp only [put_lit, put_none]
               try dsimp only [List.set_cons_succ, List.set_cons_zero]
               exact Oblig.nil
              case h0 =>
               exact ⟨HKX.out.drew, fun _ => hkeep _ _ _ _ HSX.out (Keep.refl (fun _ => False) _).drew, fun h => by cases h⟩
              case hend =>
               intro S wx hwi hall
               have HSZ := hid (hwi.2.2 (hall 11 (by decide)))
               have HKZ := hid hwi.1
               clear hwi hall
               go_wp2_with fail
               go_roundw
               case rel => exact ⟨j + 1, by omega, by go_num, by rw [HN.out, if_pos ⟨HA.out, hB, hC⟩]; exact HSZ.out, HKZ.out⟩
               case measure => simp [intOf]; omega
           · have g3 : decide (pw < (len : Int)) = false := by simpa using hC
             have HNN := hid (fun h : pa = n ∧ 0 ≤ pw ∧ pw < (len : Int) => hC h.2.2)
             go_wp2_with fail
             apply wp_region_text (WI := fun S wx => Keep0 wr wx) (by kernel_rfl) (by kernel_rfl)
             case hob =>
              iterate 28
               apply Oblig.cons
               case h =>
                intro S w1 hwi hSi hd hcl
                apply StepOk.intro
                intro K hK
                obtain ⟨a1, a2, a3, hbz⟩ := HCL.out _ (HKJ.out.trans (hwi.mono (T := fun k => S0 k ∨ N ≤ k) (fun _ h => h.elim)) (fun _ _ h => h))
                have qm := (hwi.blk HMB.out (fun h => h)).k2
                go_simp
                apply hK
                · rfl
                · conv => (lhs; whnf)
                · exact hwi
               simp only [put_lit, put_none]
               try dsimp only [List.set_cons_succ, List.set_cons_zero]
              exact Oblig.nil
             case h0 =>
              exact (Keep.refl _ _).drew
             case hend =>
              intro S wx hwi hall
              have HKX := hid (HKJ.out.trans (hwi.mono (T := fun k => S0 k ∨ N ≤ k) (fun _ h => h.elim)) (fun _ _ h => h))
              have HSX := hid (hkeep _ _ _ _ HSJ.out hwi)
              obtain ⟨wy, rfl⟩ : ∃ wy : World, wy = wx := ⟨_, rfl⟩
              clear hwi hall
              go_wp2_with fail
              go_roundw
              case rel => exact ⟨j + 1, by omega, by go_num, by rw [HN.out, if_neg HNN.out]; exact HSX.out, HKX.out⟩
              case measure => simp [intOf]; omega
         · have g2 : decide (0 ≤ pw) = false := by simpa using hB
           have HNN := hid (fun h : pa = n ∧ 0 ≤ pw ∧ pw < (len : Int) => hB h.2.1)
           go_wp2_with fail
           apply wp_region_text (WI := fun S wx => Keep0 wr wx) (by kernel_rfl) (by kernel_rfl)
           case hob =>
            iterate 28
             apply Oblig.cons
             case h =>
              intro S w1 hwi hSi hd hcl
              apply StepOk.intro
              intro K hK
              obtain ⟨a1, a2, a3, hbz⟩ := HCL.out _ (HKJ.out.trans (hwi.mono (T := fun k => S0 k ∨ N ≤ k) (fun _ h => h.elim)) (fun _ _ h => h))
              have qm := (hwi.blk HMB.out (fun h => h)).k2
              go_simp
              apply hK
              · rfl
              · conv => (lhs; whnf)
              · exact hwi
             simp only [put_lit, put_none]
             try dsimp only [List.set_cons_succ, List.set_cons_zero]
            exact Oblig.nil
           case h0 =>
            exact (Keep.refl _ _).drew
           case hend =>
            intro S wx hwi hall
            have HKX := hid (HKJ.out.trans (hwi.mono (T := fun k => S0 k ∨ N ≤ k) (fun _ h => h.elim)) (fun _ _ h => h))
            have HSX := hid (hkeep _ _ _ _ HSJ.out hwi)
            obtain ⟨wy, rfl⟩ : ∃ wy : World, wy = wx := ⟨_, rfl⟩
            clear hwi hall
            go_wp2_with fail
            go_roundw
            case rel => exact ⟨j + 1, by omega, by go_num, by rw [HN.out, if_neg HNN.out]; exact HSX.out, HKX.out⟩
            case measure => simp [intOf]; omega
       · have g1 : (pa == (n : Int)) = false := by simpa using hA
         have HNN := hid (fun h : pa = n ∧ 0 ≤ pw ∧ pw < (len : Int) => hA h.1)
         go_wp2_with fail
         apply wp_region_text (WI := fun S wx => Keep0 wr wx) (by kernel_rfl) (by kernel_rfl)
         case hob =>
          iterate 28
           apply Oblig.cons
           case h =>
            intro S w1 hwi hSi hd hcl
            apply StepOk.intro
            intro K hK
            obtain ⟨a1, a2, a3, hbz⟩ := HCL.out _ (HKJ.out.trans (hwi.mono (T := fun k => S0 k ∨ N ≤ k) (fun _ h => h.elim)) (fun _ _ h => h))
            have qm := (hwi.blk HMB.out (fun h => h)).k2
            go_simp
            apply hK
            · rfl
            · conv => (lhs; whnf)
            · exact hwi
           simp only [put_lit, put_none]
           try dsimp only [List.set_cons_succ, List.set_cons_zero]
          exact Oblig.nil
         case h0 =>
          exact (Keep.refl _ _).drew
         case hend =>
          intro S wx hwi hall
          have HKX := hid (HKJ.out.trans (hwi.mono (T := fun k => S0 k ∨ N ≤ k) (fun _ h => h.elim)) (fun _ _ h => h))
          have HSX := hid (hkeep _ _ _ _ HSJ.out hwi)
          obtain ⟨wy, rfl⟩ : ∃ wy : World, wy = wx := ⟨_, rfl⟩
          clear hwi hall
          go_wp2_with fail
          go_roundw
          case rel => exact ⟨j + 1, by omega, by go_num, by rw [HN.out, if_neg HNN.out]; exact HSX.out, HKX.out⟩
          case measure => simp [intOf]; omega
     · have hst := HSJ.out
       rw [List.take_of_length_le (by omega)] at hst
       have hpl : playF stp pk len l (most - n) n t' = (if (stp (pokeAll pk len n l t')).2 then ((stp (pokeAll pk len n l t')).1, n + 1, true) else playF stp pk len l (most - (n + 1)) (n + 1) (stp (pokeAll pk len n l t')).1) := by
        rw [show most - n = (most - (n + 1)) + 1 from by omega]; rfl
       have HP2 := hid hpl
       have HST := hid hst
       clear hpl hst
       cases hb2 : (stp (pokeAll pk len n l t')).2
       all_goals
        have HB2 := hid hb2
        clear hb2
        go_wp2_with fail
        refine (hstep n _ _ hlt HST.out).mono ?_
        rintro e w1 ⟨rfl, hs1, hk2⟩
        rw [HB2.out]
        have HS1 := hid hs1
        have HK1 := hid hk2
        clear hs1 hk2
        go_wp2_with fail
       · go_roundw
         case rel => exact ⟨n + 1, by omega, by go_num, _, HS1.out, by rw [← HPL.out, HP2.out, HB2.out]; rfl, (HK.out.trans HKJ.out (fun _ _ h => h)).trans HK1.out (fun _ _ h => h)⟩
         case measure => simp [intOf]; omega
       · have hfin : playF stp pk len l most 0 t = ((stp (pokeAll pk len n l t')).1, n + 1, true) := by rw [← HPL.out, HP2.out, HB2.out]; rfl
         have HF := hid hfin
         clear hfin
         go_ret2
         rw [HF.out]
         exact ⟨by go_num, ⟨_, HS1.out⟩, (HK.out.trans HKJ.out (fun _ _ h => h)).trans HK1.out (fun _ _ h => h)⟩
  · have hnm : n = most := by omega
    have hfin : playF stp pk len l most 0 t = (t', most, false) := by rw [← HPL.out, hnm, Nat.sub_self]; rfl
    have HF := hid hfin
    clear hfin hnm
    go_wp2_with fail
    go_ret2
    rw [HF.out]
    exact ⟨rfl, ⟨_, HS'.out⟩, HK.out⟩
end
end Go.Proofs.YthaceckccobgeaaGreat

namespace Go.Proofs.YthaceckccobgeaaGreat
open Go.RowKit
set_option linter.unusedVariables false
set_option linter.unusedSimpArgs false
theorem AInv.begin {b s : Nat} {g d : Int} {W : List Int} {L : List Acc} {x : Int} (ln : b + 4 + s ≤ W.length) (wl : W.length ≤ 10000) (s1 : p2 s) (g1 : 1 ≤ g ∧ g ≤ 2147483647) (d1 : -4398046511104 ≤ d ∧ d ≤ 4398046511104) (lw : p2 (rd W (b + 3)) ∧ rd W (b + 3) ≤ s) (xb : 0 ≤ x ∧ x < 4294967296) :
 AInv b s g d ⟨W, L, 0, x, 0, 0, 0, 0⟩ :=
 ⟨ln, wl, s1, g1, d1, lw, xb, by show (0 : Nat) ≤ 9; omega, fun h => by simp at h, fun h => by simp at h, fun h => by simp at h, fun h => by simp at h⟩
theorem casW_rd (W : List Int) (i j : Nat) (a y : Int) (h : i ≠ j) : rd (casW W i a y) j = rd W j := by
 unfold casW
 split
 · rw [rd_set, if_neg (fun e => h e.1.symm)]
 · rfl
theorem set_rd (W : List Int) (i j : Nat) (y : Int) (h : i ≠ j) : rd (W.set i y) j = rd W j := by rw [rd_set, if_neg (fun e => h e.1.symm)]
section
variable {b s : Nat} {g d : Int}
theorem aNext_out {t : AS} (h : AInv b s g d t) {j : Nat} (hj : j < b ∨ b + 4 + s ≤ j) : rd (aNext b s g d t).W j = rd t.W j := by
 obtain ⟨W, L, st, x, lv, sp, w, v⟩ := t
 obtain ⟨ln, wl, s1, g1, d1, lw, xb, nx, lb, pb, vb, gr⟩ := h
 have hs : (1 : Int) ≤ s := by unfold p2 at s1; omega
 simp only at *
 rcases st_cases nx with rfl | rfl | rfl | rfl | rfl | rfl | rfl | rfl | rfl | rfl
 · rfl
 · rfl
 · have pb' := pb (by omega) (by omega)
   by_cases hq : rd W sp = w
   · simp only [aNext, hq, if_true]; exact casW_rd _ _ _ _ _ (by omega)
   · simp only [aNext, hq, if_false, aMiss_W]; exact casW_rd _ _ _ _ _ (by omega)
 · simp only [aNext]; exact set_rd _ _ _ _ (by omega)
 · have pb' := pb (by omega) (by omega)
   simp only [aNext]; exact casW_rd _ _ _ _ _ (by omega)
 · simp only [aNext]; exact set_rd _ _ _ _ (by omega)
 · simp only [aNext]; exact set_rd _ _ _ _ (by omega)
 · simp only [aNext, aMiss_W]; exact set_rd _ _ _ _ (by omega)
 · simp only [aNext]; exact casW_rd _ _ _ _ _ (by omega)
 · rw [aNext_over rfl]
theorem aMiss_sp (s : Nat) (t : AS) : (aMiss s t).sp = t.sp := by unfold aMiss; split <;> rfl
theorem aNext_spb {t : AS} (h : AInv b s g d t) (hb : b + 4 + s ≤ 2000) (hs : t.sp ≤ 2000) : (aNext b s g d t).sp ≤ 2000 := by
 obtain ⟨W, L, st, x, lv, sp, w, v⟩ := t
 obtain ⟨ln, wl, s1, g1, d1, lw, xb, nx, lb, pb, vb, gr⟩ := h
 simp only at *
 rcases st_cases nx with rfl | rfl | rfl | rfl | rfl | rfl | rfl | rfl | rfl | rfl
 · have h1 : 1 ≤ rd W (b + 3) := by have := lw.1; unfold p2 at this; omega
   have h2 := Int.emod_nonneg x (show rd W (b + 3) ≠ 0 by omega)
   have h3 := Int.emod_lt_of_pos x (show 0 < rd W (b + 3) by omega)
   show b + 4 + (x % rd W (b + 3)).toNat ≤ 2000
   have := lw.2
   omega
 · exact hs
 · by_cases hq : rd W sp = w
   · simp only [aNext, hq, if_true]; exact hs
   · simp only [aNext, hq, if_false, aMiss_sp]; exact hs
 · exact hs
 · exact hs
 · exact hs
 · exact hs
 · simp only [aNext, aMiss_sp]; exact hs
 · exact hs
 · rw [aNext_over rfl]; exact hs
end
section
variable {av le : Nat} {n lim : Int}
theorem pNext_W (t : PS) : (pNext av le n lim t).W = t.W ∨ (∃ x, (pNext av le n lim t).W = t.W.set av x) ∨ ∃ x, (pNext av le n lim t).W = t.W.set le x := by
 have hc : ∀ (i : Nat) (a x : Int), casW t.W i a x = t.W ∨ casW t.W i a x = t.W.set i x := by
  intro i a x
  unfold casW
  split
  · exact Or.inr rfl
  · exact Or.inl rfl
 unfold pNext
 split
 · exact Or.inl rfl
 · split
   · rcases hc le t.had (t.had - n) with h | h
     · exact Or.inl h
     · exact Or.inr (Or.inr ⟨_, h⟩)
   · split
     · split <;> exact Or.inl rfl
     · split
       · rcases hc av t.saw (t.saw - n - t.extra) with h | h
         · exact Or.inl h
         · exact Or.inr (Or.inl ⟨_, h⟩)
       · split
         · exact Or.inl rfl
         · split
           · rcases hc le t.had (t.had + t.extra) with h | h
             · exact Or.inl h
             · exact Or.inr (Or.inr ⟨_, h⟩)
           · split
             · exact Or.inr (Or.inl ⟨_, rfl⟩)
             · exact Or.inl rfl
end
section
variable {p : P12} {X : Int} {t : S12}
theorem WOK.pool {W : List Int} (hp : P12OK p) (h : WOK p X W) {v : Nat} (hv : v < p.P.length) {x : PS} (hx : x.W = W) (hi : PInv (p.av v) (p.le v p.u) p.n p.lm X x) : WOK p (X + 1048576) (pNext (p.av v) (p.le v p.u) p.n p.lm x).W := by
 have hs := hi.step
 have h2 := h.more (Y := X + 1048576) (by omega)
 have la := hi.la
 have ll := hi.ll
 rw [hx] at la ll
 have wa := hs.wa
 have wl := hs.wl
 rcases pNext_W (av := p.av v) (le := p.le v p.u) (n := p.n) (lim := p.lm) x with e | ⟨y, e⟩ | ⟨y, e⟩
 · rw [e, hx]; exact h2
 · rw [e, hx] at wa ⊢
   rw [rd_set, if_pos ⟨rfl, la⟩] at wa
   exact h2.setav hp v y wa
 · rw [e, hx] at wl ⊢
   rw [rd_set, if_pos ⟨rfl, ll⟩] at wl
   exact h2.setle v p.u y hp.u1 wl
theorem WOK.add {W : List Int} (hp : P12OK p) (h : WOK p X W) {v : Nat} (hv : v < p.P.length) {x : AS} {d : Int} (hx : x.W = W) (hi : AInv (p.ct v) p.s p.g d x) : WOK p X (aNext (p.ct v) p.s p.g d x).W := by
 have ho := fun j hj => aNext_out (j := j) hi hj
 have hs := hi.step
 have hl := aNext_len (b := p.ct v) (s := p.s) (g := p.g) (d := d) x
 rw [hx] at ho hl
 have s8 := hp.s8
 refine ⟨hl.trans h.ln, fun v' hv' => ?_, fun v' hv' u hu => ?_, fun v' hv' => ?_⟩
 · rw [ho]
   · exact h.av v' hv'
   · by_cases hc : p.av v' < p.ct v
     · exact Or.inl hc
     · right
       by_cases hvv : v' ≤ v
       · exfalso
         have : v' * (6 + 2 * p.s) ≤ v * (6 + 2 * p.s) := Nat.mul_le_mul_right _ hvv
         unfold P12.av P12.ct at hc; omega
       · have : (v + 1) * (6 + 2 * p.s) ≤ v' * (6 + 2 * p.s) := Nat.mul_le_mul_right _ (by omega)
         rw [Nat.add_mul, Nat.one_mul] at this
         unfold P12.av P12.ct; omega
 · rw [ho]
   · exact h.le v' hv' u hu
   · by_cases hvv : v' ≤ v
     · left
       have : v' * (6 + 2 * p.s) ≤ v * (6 + 2 * p.s) := Nat.mul_le_mul_right _ hvv
       unfold P12.le P12.ct; omega
     · right
       have : (v + 1) * (6 + 2 * p.s) ≤ v' * (6 + 2 * p.s) := Nat.mul_le_mul_right _ (by omega)
       rw [Nat.add_mul, Nat.one_mul] at this
       unfold P12.le P12.ct; omega
 · by_cases e : v' = v
   · subst e; exact hs.lw
   · rw [ho]
     · exact h.lv v' hv'
     · by_cases hvv : v' < v
       · left
         have : (v' + 1) * (6 + 2 * p.s) ≤ v * (6 + 2 * p.s) := Nat.mul_le_mul_right _ (by omega)
         rw [Nat.add_mul, Nat.one_mul] at this
         unfold P12.ct; omega
       · right
         have : (v + 1) * (6 + 2 * p.s) ≤ v' * (6 + 2 * p.s) := Nat.mul_le_mul_right _ (by omega)
         rw [Nat.add_mul, Nat.one_mul] at this
         unfold P12.ct; omega
theorem WOK.claim {W : List Int} (hp : P12OK p) (h : WOK p X W) {c : CS} (hc : c.W = W) (k : Nat) : WOK p X (cNext p.K k p.q c).W := by
 have hw : (cNext p.K k p.q c).W = W ∨ ∃ i a x, p.q ≤ i ∧ (cNext p.K k p.q c).W = casW W i a x := by
  unfold cNext
  rw [← hc]
  split
  · split
    · split <;> exact Or.inl rfl
    · split <;> exact Or.inr ⟨_, _, _, by omega, rfl⟩
  · exact Or.inl rfl
 rcases hw with e | ⟨i, a, x, hi, e⟩
 · rw [e]; exact h
 · rw [e]; exact h.ticketc hp i a x hi
theorem WOK.pinv {W : List Int} {L : List Acc} (hp : P12OK p) (h : WOK p X W) {v : Nat} (hv : v < p.P.length) : PInv (p.av v) (p.le v p.u) p.n p.lm X { po0 with W := W, L := L } := by
 have h1 := hp.av_lt hv
 have h2 := hp.le_lt hv hp.u1
 have h3 := h.ln
 refine ⟨by show p.av v < W.length; omega, by show p.le v p.u < W.length; omega, av_le hp.u1, hp.n1, hp.l1, h.le v hv _ hp.u1, h.av v hv, by show (0 : Nat) ≤ 7; omega, ?_, ?_, ?_, ?_, ?_⟩
 · intro h; cases h
 · intro h; cases h
 · rintro (h | h | h) <;> cases h
 · intro h; cases h
 · intro h; cases h
theorem WOK.ainv {W : List Int} {L : List Acc} (hp : P12OK p) (h : WOK p X W) {v : Nat} (hv : v < p.P.length) {d : Int} (hd : -4398046511104 ≤ d ∧ d ≤ 4398046511104) : AInv (p.ct v) p.s p.g d { ad0 p with W := W, L := L } := by
 have h1 := hp.ct_lt hv
 have h3 := h.ln
 have g1 := hp.g1
 have k1 := hp.k1
 have hq : p.q ≤ 264 := by
  have h1 := hp.p1
  have h2 := hp.s8
  have : p.P.length * (6 + 2 * p.s) ≤ 12 * 22 := Nat.mul_le_mul h1.2 (by omega)
  exact this
 refine AInv.begin (by omega) (by omega) hp.s1 ⟨g1.1, by omega⟩ hd (h.lv v hv) ?_
 show 0 ≤ dBegin p.th ∧ dBegin p.th < 4294967296
 exact ⟨Int.emod_nonneg _ (by omega), Int.emod_lt_of_pos _ (by omega)⟩
theorem P12OK.q264 (hp : P12OK p) : p.q ≤ 264 := by
 have h1 := hp.p1
 have h2 := hp.s8
 have : p.P.length * (6 + 2 * p.s) ≤ 12 * 22 := Nat.mul_le_mul h1.2 (by omega)
 exact this
theorem I12.start (hp : P12OK p) {W : List Int} {L : List Acc} (h : WOK p X W) : I12 p X (start12 p W L) := by
 have h1 := h.ln
 have hq := hp.q264
 have hk := hp.k1
 refine ⟨h, by show (0 : Nat) ≤ 6; omega, by show (0 : Nat) ≤ _; omega, by show (0 : Nat) < p.K; omega, fun _ => ⟨⟨by show p.q + 2 * p.K ≤ W.length; omega, by show W.length ≤ 10000; omega, hk, by show (0 : Nat) ≤ 2; omega, fun _ => by show (0 : Nat) < p.K; omega, fun _ => ⟨rfl, rfl⟩, fun h => by cases h⟩, rfl, rfl⟩, fun h => ?_, fun h => ?_, fun h => ?_, fun _ _ => ⟨rfl, rfl⟩, fun _ => rfl⟩
 · exact absurd (show 1 ≤ 0 from h) (by omega)
 · cases h
 · cases h
theorem I12.over (h : t.ph = 6) : n12 p t = t := by
 unfold n12
 simp [h]
theorem n12_0 (h : t.ph = 0) : n12 p t = claimed12 { t with W := (cNext p.K p.th p.q t.c).W, L := (cNext p.K p.th p.q t.c).L, cl := cNext p.K p.th p.q t.c } := by unfold n12; rw [if_pos h]
theorem n12_1 (h : t.ph = 1) : n12 p t = pooled12 p { t with W := (pNext (p.av (p.v t.at_)) (p.le (p.v t.at_) p.u) p.n p.lm t.pl).W, L := (pNext (p.av (p.v t.at_)) (p.le (p.v t.at_) p.u) p.n p.lm t.pl).L, po := pNext (p.av (p.v t.at_)) (p.le (p.v t.at_) p.u) p.n p.lm t.pl } := by unfold n12; rw [if_neg (by omega), if_pos h]
theorem n12_2 (h : t.ph = 2) (h2 : 0 < t.at_) : n12 p t = { t with at_ := t.at_ - 1, W := t.W.set (p.av (p.v (t.at_ - 1))) (wrap64 (rd t.W (p.av (p.v (t.at_ - 1))) + p.n)), L := t.L ++ [⟨2, (p.av (p.v (t.at_ - 1)) : Nat), p.n, wrap64 (rd t.W (p.av (p.v (t.at_ - 1))) + p.n), false⟩] } := by unfold n12; rw [if_neg (by omega), if_neg (by omega), if_pos h, if_pos h2]
theorem n12_2z (h : t.ph = 2) (h2 : ¬ 0 < t.at_) : n12 p t = { t with ph := 6, W := t.W.set (t.tk p) (pNext6 t.cl.set 0), L := t.L ++ [⟨4, (t.tk p : Nat), pNext6 t.cl.set 0, 0, false⟩] } := by unfold n12; rw [if_neg (by omega), if_neg (by omega), if_pos h, if_neg h2]
theorem n12_3 (h : t.ph = 3) : n12 p t = { t with ph := 4, W := t.W.set (t.tk p + 1) (p.nd * 2097152 + p.n), L := t.L ++ [⟨4, (t.tk p + 1 : Nat), p.nd * 2097152 + p.n, 0, false⟩] } := by unfold n12; rw [if_neg (by omega), if_neg (by omega), if_neg (by omega), if_pos h]
theorem n12_4 (h : t.ph = 4) : n12 p t = { t with ph := 5, at_ := 0, live := pNext6 t.cl.set 2, ad := ad0 p, W := t.W.set (t.tk p) (pNext6 t.cl.set 2), L := t.L ++ [⟨4, (t.tk p : Nat), pNext6 t.cl.set 2, 0, false⟩] } := by unfold n12; rw [if_neg (by omega), if_neg (by omega), if_neg (by omega), if_neg (by omega), if_pos h]
theorem n12_5 (h : t.ph = 5) : n12 p t = added12 p { t with W := (aNext (p.ct (p.v t.at_)) p.s p.g p.n t.a).W, L := (aNext (p.ct (p.v t.at_)) p.s p.g p.n t.a).L, ad := aNext (p.ct (p.v t.at_)) p.s p.g p.n t.a } := by unfold n12; rw [if_neg (by omega), if_neg (by omega), if_neg (by omega), if_neg (by omega), if_neg (by omega), if_pos h]
theorem cNext_n {K s q : Nat} (c : CS) : (cNext K s q c).n = c.n ∨ (cNext K s q c).n = ck K s c.j := by
 unfold cNext
 split
 · split
   · split <;> exact Or.inl rfl
   · split
     · exact Or.inr rfl
     · exact Or.inl rfl
 · exact Or.inl rfl
theorem I12.step (hp : P12OK p) (h : I12 p X t) (hX : X ≤ 4398046511104) : I12 p (X + 1048576) (n12 p t) := by
 have hph := h.ph
 have hw := h.w
 have hw2 := hw.more (Y := X + 1048576) (by omega)
 have hq := hp.q264
 have hk := hp.k1
 have hn1 := hp.n1
 have hh1 := hp.h1
 have hc7 : t.ph = 0 ∨ t.ph = 1 ∨ t.ph = 2 ∨ t.ph = 3 ∨ t.ph = 4 ∨ t.ph = 5 ∨ t.ph = 6 := by omega
 rcases hc7 with e | e | e | e | e | e | e
 · obtain ⟨hc, hf, ha⟩ := h.ci e
   have hz := h.z (by omega) (by omega)
   have hz2 := h.z2 (by omega)
   rw [n12_0 e]
   have hs := hc.step (s := p.th)
   have hwc := (hw.claim hp (c := t.c) rfl p.th).more (Y := X + 1048576) (by omega)
   have hcn : (cNext p.K p.th p.q t.c).n < p.K := by
    rcases cNext_n (K := p.K) (s := p.th) (q := p.q) t.c with e1 | e1
    · rw [e1]; exact h.cn
    · rw [e1]; exact ck_lt hk.1
   generalize cNext p.K p.th p.q t.c = c at *
   unfold claimed12
   simp only
   split
   · rename_i h0
     exact ⟨hwc, by show t.ph ≤ 6; omega, h.at_, hcn, fun _ => ⟨hs, h0, ha⟩, fun h1 _ => absurd (show 1 ≤ t.ph from h1) (by omega), fun h1 => absurd (show t.ph = 1 from h1) (by omega), fun h1 => absurd (show t.ph = 5 from h1) (by omega), fun _ _ => hz, fun _ => hz2⟩
   · split
     · exact ⟨hwc, by show (6 : Nat) ≤ 6; omega, h.at_, hcn, fun h1 => (by cases h1), fun _ h1 => absurd (show (6 : Nat) ≤ 5 from h1) (by omega), fun h1 => (by cases h1), fun h1 => (by cases h1), fun h1 => absurd rfl h1, fun h1 => absurd rfl h1⟩
     · rename_i h0 h2
       have hfb := hs.fb
       exact ⟨hwc, by show (1 : Nat) ≤ 6; omega, h.at_, hcn, fun h1 => (by cases h1), fun _ _ => (show c.fin = 1 by omega), fun _ => ⟨(show t.at_ < _ by omega), hwc.pinv hp (hp.v1 (show t.at_ < _ by omega)), by show (0 : Nat) < 7; omega⟩, fun h1 => (by cases h1), fun _ _ => hz, fun _ => hz2⟩
 · obtain ⟨ha, hpi, h7⟩ := h.pi e
   have hz := h.z (by omega) (by omega)
   have hz2 := h.z2 (by omega)
   have hf := h.f (by omega) (by omega)
   rw [n12_1 e]
   have hs := hpi.step
   have hwp := hw.pool hp (hp.v1 ha) (x := t.pl) rfl hpi
   generalize pNext (p.av (p.v t.at_)) (p.le (p.v t.at_) p.u) p.n p.lm t.pl = x at *
   unfold pooled12
   simp only
   have hx7 := hs.nx
   split
   · rename_i hx
     exact ⟨hwp, by show t.ph ≤ 6; omega, h.at_, h.cn, fun h1 => absurd (show t.ph = 0 from h1) (by omega), fun _ _ => hf, fun _ => ⟨ha, hs, show x.next < 7 by omega⟩, fun h1 => absurd (show t.ph = 5 from h1) (by omega), fun _ _ => hz, fun _ => hz2⟩
   · split
     · exact ⟨hwp, by show (2 : Nat) ≤ 6; omega, h.at_, h.cn, fun h1 => (by cases h1), fun _ _ => hf, fun h1 => (by cases h1), fun h1 => (by cases h1), fun _ h1 => absurd rfl h1, fun _ => hz2⟩
     · split
       · rename_i hl
         exact ⟨hwp, by show (3 : Nat) ≤ 6; omega, by show t.at_ + 1 ≤ _; omega, h.cn, fun h1 => (by cases h1), fun _ _ => hf, fun h1 => (by cases h1), fun h1 => (by cases h1), fun _ _ => hz, fun _ => hz2⟩
       · rename_i hl
         exact ⟨hwp, by show t.ph ≤ 6; omega, by show t.at_ + 1 ≤ _; omega, h.cn, fun h1 => absurd (show t.ph = 0 from h1) (by omega), fun _ _ => hf, fun _ => ⟨(show t.at_ + 1 < _ by omega), hwp.pinv hp (hp.v1 (show t.at_ + 1 < _ by omega)), by show (0 : Nat) < 7; omega⟩, fun h1 => absurd (show t.ph = 5 from h1) (by omega), fun _ _ => hz, fun _ => hz2⟩
 · have hz2 := h.z2 (by omega)
   have hf := h.f (by omega) (by omega)
   have ha := h.at_
   by_cases h0 : 0 < t.at_
   · rw [n12_2 e h0]
     have hv := hp.v1 (show t.at_ - 1 < p.path.length by omega)
     have hb := hw.av _ hv
     have e1 : wrap64 (rd t.W (p.av (p.v (t.at_ - 1))) + p.n) = rd t.W (p.av (p.v (t.at_ - 1))) + p.n := by unfold wrap64; omega
     exact ⟨hw2.setav hp _ _ (by rw [e1]; omega), by show t.ph ≤ 6; omega, by show t.at_ - 1 ≤ _; omega, h.cn, fun h1 => absurd (show t.ph = 0 from h1) (by omega), fun _ _ => hf, fun h1 => absurd (show t.ph = 1 from h1) (by omega), fun h1 => absurd (show t.ph = 5 from h1) (by omega), fun _ h1 => absurd (show ¬ t.ph = 2 from h1) (by omega), fun _ => hz2⟩
   · rw [n12_2z e h0]
     exact ⟨hw2.ticket hp _ _ (by show p.q ≤ p.q + 2 * t.cl.n; omega), by show (6 : Nat) ≤ 6; omega, h.at_, h.cn, fun h1 => (by cases h1), fun _ h1 => absurd (show (6 : Nat) ≤ 5 from h1) (by omega), fun h1 => (by cases h1), fun h1 => (by cases h1), fun h1 => absurd rfl h1, fun h1 => absurd rfl h1⟩
 · have hz := h.z (by omega) (by omega)
   have hz2 := h.z2 (by omega)
   have hf := h.f (by omega) (by omega)
   rw [n12_3 e]
   exact ⟨hw2.ticket hp _ _ (by show p.q ≤ p.q + 2 * t.cl.n + 1; omega), by show (4 : Nat) ≤ 6; omega, h.at_, h.cn, fun h1 => (by cases h1), fun _ _ => hf, fun h1 => (by cases h1), fun h1 => (by cases h1), fun _ _ => hz, fun _ => hz2⟩
 · have hz := h.z (by omega) (by omega)
   have hz2 := h.z2 (by omega)
   have hf := h.f (by omega) (by omega)
   rw [n12_4 e]
   have hw3 := hw2.ticket hp (t.tk p) (pNext6 t.cl.set 2) (by show p.q ≤ p.q + 2 * t.cl.n; omega)
   exact ⟨hw3, by show (5 : Nat) ≤ 6; omega, by show (0 : Nat) ≤ _; omega, h.cn, fun h1 => (by cases h1), fun _ _ => hf, fun h1 => (by cases h1), fun _ => ⟨(show 0 < _ by omega), hw3.ainv hp (hp.v1 (show 0 < _ by omega)) (by omega), by show ¬ (0 : Nat) = 9; omega, by show (0 : Nat) ≤ 2000; omega⟩, fun _ _ => hz, fun _ => hz2⟩
 · have hz := h.z (by omega) (by omega)
   have hz2 := h.z2 (by omega)
   have hf := h.f (by omega) (by omega)
   obtain ⟨ha, hai, h9, hsp⟩ := h.ai e
   rw [n12_5 e]
   have hs := hai.step
   have hct := hp.ct_lt (hp.v1 ha)
   have hsp2 := aNext_spb hai (by omega) hsp
   have hwa := (hw.add hp (hp.v1 ha) (x := t.a) rfl hai).more (Y := X + 1048576) (by omega)
   generalize aNext (p.ct (p.v t.at_)) p.s p.g p.n t.a = x at *
   unfold added12
   simp only
   split
   · rename_i hx
     exact ⟨hwa, by show t.ph ≤ 6; omega, h.at_, h.cn, fun h1 => absurd (show t.ph = 0 from h1) (by omega), fun _ _ => hf, fun h1 => absurd (show t.ph = 1 from h1) (by omega), fun _ => ⟨ha, hs, hx, hsp2⟩, fun _ _ => hz, fun _ => hz2⟩
   · split
     · rename_i hl
       exact ⟨hwa, by show t.ph ≤ 6; omega, by show t.at_ + 1 ≤ _; omega, h.cn, fun h1 => absurd (show t.ph = 0 from h1) (by omega), fun _ _ => hf, fun h1 => absurd (show t.ph = 1 from h1) (by omega), fun _ => ⟨(show t.at_ + 1 < _ by omega), hwa.ainv hp (hp.v1 (show t.at_ + 1 < _ by omega)) (by omega), by show ¬ (0 : Nat) = 9; omega, by show (0 : Nat) ≤ 2000; omega⟩, fun _ _ => hz, fun _ => hz2⟩
     · exact ⟨hwa, by show (6 : Nat) ≤ 6; omega, by show t.at_ + 1 ≤ _; omega, h.cn, fun h1 => (by cases h1), fun _ h1 => absurd (show (6 : Nat) ≤ 5 from h1) (by omega), fun h1 => (by cases h1), fun h1 => (by cases h1), fun h1 => absurd rfl h1, fun h1 => absurd rfl h1⟩
 · rw [I12.over e]
   exact ⟨hw2, h.ph, h.at_, h.cn, fun h1 => by omega, h.f, fun h1 => by omega, fun h1 => by omega, h.z, h.z2⟩
end
end Go.Proofs.YthaceckccobgeaaGreat
