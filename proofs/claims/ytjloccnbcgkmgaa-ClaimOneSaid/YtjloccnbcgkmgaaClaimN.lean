/- package claim: from, New: a range over a function. -/
import Derived.Test.YtjloccnbcgkmgaaRegionIn
import Derived.Test.YtjloccnbcgkmgaaClaimP
import Derived.RangeFuncNested
import Derived.RangeFuncBound
import Derived.RangeFuncCalls
import Derived.RangeFuncLeaves
import Derived.Shelf.Abstract
import Derived.Shelf.RegionOpen
import Derived.WalkKit
import Derived.OwnWalkIn
import Derived.TacticsInMore
import Derived.LoopNIn
import Derived.LoopIn
import Derived.Maps.AppendAt
namespace Go.Proofs.Ytjloccnbcgkmgaa
open Go.RowKit Go.Shelf
set_option linter.unusedVariables false
set_option linter.unusedSimpArgs false
set_option maxRecDepth 100000
attribute [local go_sem] Oper.semAt_some
/-- the tickets, from s on, the first k of them -/
def tks (K s k : Nat) : List Nat := (List.range k).map (ck K s)
theorem tks_succ (K s k : Nat) : tks K s (k + 1) = tks K s k ++ [ck K s k] := by simp [tks, List.range_succ]
theorem tks_length (K s k : Nat) : (tks K s k).length = k := by simp [tks]
/-- two captured cells are kept -/
def KP (Bs Bk : Nat) (W W' : World) : Prop := (∀ v, W.cell? ⟨Bs, 0, none⟩ = some v → W'.cell? ⟨Bs, 0, none⟩ = some v) ∧ (∀ v, W.cell? ⟨Bk, 0, none⟩ = some v → W'.cell? ⟨Bk, 0, none⟩ = some v)
theorem KP.refl (Bs Bk : Nat) (W : World) : KP Bs Bk W W := ⟨fun _ h => h, fun _ h => h⟩
theorem KP.trans {Bs Bk : Nat} {A B C : World} (h : KP Bs Bk A B) (k : KP Bs Bk B C) : KP Bs Bk A C := ⟨fun v hv => k.1 v (h.1 v hv), fun v hv => k.2 v (h.2 v hv)⟩
theorem KP.put {Bs Bk : Nat} {W : World} {l : Nat} (o' : Obj) (h1 : Bs ≠ l) (h2 : Bk ≠ l) : KP Bs Bk W (W.putObj l o') :=
  ⟨fun v hv => (World.cell?_of_block (World.putObj_heap_other h1)).trans hv, fun v hv => (World.cell?_of_block (World.putObj_heap_other h2)).trans hv⟩
theorem KP.keep {Bs Bk : Nat} {S : Nat → Prop} {W W' : World} (hk : Keep S W W') (h1 : ¬ S Bs) (h2 : ¬ S Bk) : KP Bs Bk W W' :=
  ⟨fun v hv => by rw [cell_old hk (World.block_lt_of_cell? _ _ hv) h1]; exact hv, fun v hv => by rw [cell_old hk (World.block_lt_of_cell? _ _ hv) h2]; exact hv⟩
set_option maxHeartbeats 2000000 in
theorem claim_from1 (F : Fence) (n : Nat) (h7 : F.fn 62) (hro : F.round = none) (hn : 1 ≤ n) (l Bs Bk : Nat) (K s : Nat) (hK : 1 ≤ K ∧ K ≤ 16) (hs : s ≤ 1000000) (J Jx : List Nat → World → Prop)
    (hY : ∀ pre x W, J pre W → pre.length < K → YieldAt F (n - 1) Try.prog l #[.int .i64 (x : Nat)] W fun e W' =>
      (e = .returned (.bool true) ∧ J (pre ++ [x]) W' ∧ KP Bs Bk W W') ∨ (e = .returned (.bool false) ∧ Jx (pre ++ [x]) W'))
    (W : World) (hcs : W.cell? ⟨Bs, 0, none⟩ = some (.int .i64 (s : Nat))) (hck : W.cell? ⟨Bk, 0, none⟩ = some (.int .i64 (K : Nat))) (h0 : J [] W) :
    CallsIn F n Try.prog 62 #[.func (.yield l) #[] #[], .pointer (some ⟨Bk, 0, none⟩), .pointer (some ⟨Bs, 0, none⟩)] W fun e W' => (∃ v, e = .returned v) ∧
      ((∃ ys, ys = tks K s K ∧ J ys W') ∨ (∃ pre, True ∧ Jx pre W')) := by
  refine callsIn_of_wp Try.func62 rfl h7 ?_ hro
  simp only [Try.ntmps62, List.size_toArray, List.length_cons, List.length_nil, Nat.reduceAdd, Nat.reduceSub, Array.replicate_succ, Array.replicate_zero, List.push_toArray, List.append_toArray, List.nil_append, List.cons_append]
  gi_wp2
  gi_loopw [6] (fun i wr => ∃ k : Nat, k ≤ K ∧ i = .int .i64 k ∧ J (tks K s k) wr ∧ KP Bs Bk W wr) (fun i _ => K - (intOf i).toNat)
  case atStart => exact ⟨0, Nat.zero_le _, rfl, h0, KP.refl _ _ _⟩
  case round =>
    obtain ⟨k, hk, rfl, hJs, hnx⟩ := hrel
    have c1 := hnx.1 _ hcs
    have c2 := hnx.2 _ hck
    by_cases hlt : k < K
    · obtain ⟨fn, tmps, assign, body, hy, hR⟩ := hY _ (ck K s k) wr hJs (by rw [tks_length]; exact hlt)
      have y2 : ((s : Int) + (k : Int)).tmod (K : Int) = ((ck K s k : Nat) : Int) := by rw [Int.tmod_eq_emod_of_nonneg (by omega)]; unfold ck; push_cast; rfl
      have y1 : IntKind.i64.wrap ((s : Int) + (k : Int)) = (s : Int) + (k : Int) := IntWalk.i64_in _ (by omega)
      have y3 : ¬ K = 0 := by omega
      have hJn : tks K s (k + 1) = tks K s k ++ [ck K s k] := tks_succ K s k
      generalize ck K s k = q at *
      gi_wp2
      refine hR.mono ?_
      rintro e W3 (⟨rfl, hJ3, hk3⟩ | ⟨rfl, hJx3⟩)
      · gi_wp2
        go_roundw
        case rel => exact ⟨k + 1, by omega, by go_num, by rw [hJn]; exact hJ3, hnx.trans hk3⟩
        case measure => simp [intOf]; omega
      · gi_wp2
        refine bodyPost_ret (results_none rfl _ _ _) rfl ?_
        exact ⟨⟨_, rfl⟩, .inr ⟨_, trivial, hJx3⟩⟩
    · obtain rfl : k = K := by omega
      gi_wp2
      go_end0
      exact ⟨⟨_, rfl⟩, .inl ⟨_, rfl, hJs⟩⟩
theorem claim_from_in (F : Fence) (n : Nat) (h5 : F.fn 39) (hro : F.round = none) (s K : Int) (w : World) :
    CallsIn F n Try.prog 39 #[.int .i64 s, .int .i64 K] w fun e w' => e = .returned (.func (.func 62) #[] #[.pointer (some ⟨w.heap.size + 1, 0, none⟩), .pointer (some ⟨w.heap.size, 0, none⟩)]) ∧ w' = (w.alloc (.cells #[.int .i64 s] 3)).alloc (.cells #[.int .i64 K] 3) := by
  refine callsIn_of_wp Try.func39 rfl h5 ?_ hro
  simp only [Try.ntmps39, List.size_toArray, List.length_cons, List.length_nil, Nat.reduceAdd, Nat.reduceSub, Array.replicate_succ, Array.replicate_zero, List.push_toArray, List.append_toArray, List.nil_append, List.cons_append]
  gi_wp2
  go_ret
  exact ⟨rfl, rfl⟩
theorem claim_stops (F : Fence) (n : Nat) (h7 : F.fn 62) (hro : F.round = none) (hn : 1 ≤ n) (Bs Bk : Nat) (K s : Nat) (hK : 1 ≤ K ∧ K ≤ 16) (hs : s ≤ 1000000) (w : World) (hbs : Bs < w.heap.size) (hbk : Bk < w.heap.size)
    (hcs : w.cell? ⟨Bs, 0, none⟩ = some (.int .i64 (s : Nat))) (hck : w.cell? ⟨Bk, 0, none⟩ = some (.int .i64 (K : Nat))) :
    SeqStopsK F n Try.prog 62 #[.pointer (some ⟨Bk, 0, none⟩), .pointer (some ⟨Bs, 0, none⟩)] (fun x : Nat => #[Value.int .i64 (x : Nat)]) (KP Bs Bk) (fun ys => ys = tks K s K) (fun _ => True) K w := fun l J Jx W hW _ _ hY h0 =>
  claim_from1 F n h7 hro hn l Bs Bk K s hK hs J Jx hY W ((hW.cell (p := ⟨Bs, 0, none⟩) hbs).trans hcs) ((hW.cell (p := ⟨Bk, 0, none⟩) hbk).trans hck) h0
end Go.Proofs.Ytjloccnbcgkmgaa
