/- package add: a machine's small functions. -/
import Derived.Test.YtlkniogapdhcpaaPack
import Derived.Test.YtlkniogapdhcpaaRegion
namespace Go.Proofs.Ytlkniogapdhcpaa
open Go.RowKit
set_option linter.unusedVariables false
set_option linter.unusedSimpArgs false
set_option maxRecDepth 100000
section
variable {B : Nat} {w : World} {m a x : Nat} {lv : Value} {W : List Int} {L : List Acc} {b st g d x0 lv6 sp ww vv : Int} {nx : Value}
theorem am_far {cs : List Value} (hm : MemAt B w m a lv W L) (hx : Blk w x 95 cs) : ¬ MF m a lv x := by
  rintro (h | h | h)
  · exact hx.ne hm.mem (by decide) h
  · exact hx.ne hm.words (by decide) h
  · exact ownBlock_ne hm.log hx (by decide) h.symm
set_option maxHeartbeats 400000 in
theorem add_word (c : Int) (hx : Blk w x 95 [i64 b, i64 st, i64 g, i64 d, i64 x0, i64 lv6, i64 sp, i64 ww, i64 vv, nx]) (h : -9223372036854775808 ≤ b + c ∧ b + c ≤ 9223372036854775807) :
    Calls Try.prog 52 #[ptr x, i64 c] w (fun e w' => e = .returned (i64 (b + c)) ∧ w = w') := by
  have qx := hx.k10
  have y : IntKind.i64.wrap (b + c) = b + c := IntWalk.i64_in _ h
  clear hx
  go_enter Try.func52, Try.ntmps52
  go_wp2_with fail
  go_ret
  exact ⟨rfl, rfl⟩
set_option maxHeartbeats 400000 in
theorem add_with (c : Int) (hx : Blk w x 95 [i64 b, i64 st, i64 g, i64 d, i64 x0, i64 lv6, i64 sp, i64 ww, i64 vv, nx]) (h : -2147483648 ≤ c ∧ c ≤ 2147483647) :
    Calls Try.prog 61 #[ptr x, i64 c] w (fun e w' => e = .returned (i64 (pNext6 ww c)) ∧ w = w') := by
  have qx := hx.k10
  clear hx
  go_enter Try.func61, Try.ntmps61
  go_wp2_with fail
  refine (pack_Next ww c _ h).mono ?_
  rintro e w1 ⟨rfl, rfl⟩
  go_wp2_with fail
  go_ret
  exact ⟨rfl, rfl⟩
/-- what a step's function leaves: the cells, and the function that is next -/
def AddP (B : Nat) (w : World) (m a : Nat) (lv : Value) (x : Nat) (cs : List Value) (W' : List Int) (L' : List Acc) (rv : Value) (e : Ending) (w' : World) : Prop :=
  e = .returned rv ∧ ∃ lv', MemAt B w' m a lv' W' L' ∧ Blk w' x 95 cs ∧ Keep (fun k => MF m a lv k ∨ k = x) w w' ∧ (∀ k, lv'.ownBlock = some k → lv.ownBlock = some k ∨ w.heap.size ≤ k)
theorem addP_of {w1 w2 : World} {lv1 : Value} {W' : List Int} {L' : List Acc} {rv : Value} {cs cs1 : List Value} (hm : MemAt B w1 m a lv1 W' L') (hk : Keep (MF m a lv) w w1) (ho : ∀ k, lv1.ownBlock = some k → lv.ownBlock = some k ∨ w.heap.size ≤ k)
    (hx1 : Blk w1 x 95 cs1) (hk2 : Keep (fun k => k = x) w1 w2) (hx2 : Blk w2 x 95 cs) : AddP B w m a lv x cs W' L' rv (.returned rv) w2 :=
  ⟨rfl, lv1, hm.keep hk2 (fun k h e => am_far hm hx1 (by have e' : k = x := e; exact e' ▸ h)), hx2, (hk.mono (fun _ h => Or.inl h)).trans (hk2.mono (fun _ h => Or.inr h)) (fun _ _ h => h), ho⟩

/-- open, undo's and close's way: one is added to a word -/
theorem mem_Add1 (i : Nat) (c : Int) (hm : MemAt B w m a lv W L) (hi : i < W.length) (hL : L.length ≤ 1000000000) :
    Calls Try.prog 63 #[ptr m, i64 i, i64 c] w (fun e w' => e = .returned (i64 (wrap64 (rd W i + c))) ∧ MemPost B w m a lv (W.set i (wrap64 (rd W i + c))) (L ++ [⟨2, i, c, wrap64 (rd W i + c), false⟩]) w') := by
  have h := mem_Add (i : Int) c hm (by omega) (by omega) hL
  rw [Int.toNat_natCast] at h
  exact h
set_option maxHeartbeats 1000000 in
theorem add_open (i1 : Nat) (hm : MemAt B w m a lv W L) (hx : Blk w x 95 [i64 b, i64 st, i64 g, i64 d, i64 x0, i64 lv6, i64 sp, i64 ww, i64 vv, nx]) (h1 : (i1 : Int) = b + 1) (hi : i1 < W.length) (hL : L.length ≤ 1000000000) (hW : W.length ≤ 10000) :
    Calls Try.prog 59 #[ptr x, ptr m] w (AddP B w m a lv x [i64 b, i64 st, i64 g, i64 d, i64 x0, i64 lv6, i64 sp, i64 ww, i64 vv, nx] (W.set i1 (wrap64 (rd W i1 + 1))) (L ++ [⟨2, i1, 1, wrap64 (rd W i1 + 1), false⟩]) (.func (.func 64) #[] #[])) := by
  have HX := hid hx
  have HM := hid hm
  have HW := hid (add_word 1 hx (by omega))
  rw [← h1] at HW
  have HA := hid (mem_Add1 i1 1 hm hi hL)
  have hxm := am_far hm hx
  clear hx hm h1
  go_enter Try.func59, Try.ntmps59
  go_wp2_with fail
  refine HW.out.mono ?_
  rintro e w1 ⟨rfl, rfl⟩
  go_wp2_with fail
  refine HA.out.mono ?_
  rintro e w2 ⟨rfl, lv1, hm1, hk1, ho1⟩
  have HM1 := hid hm1
  have HK1 := hid hk1
  have HO1 := hid ho1
  have HX1 := hid (hk1.blk HX.out hxm)
  clear hm1 hk1 ho1
  go_wp2_with fail
  go_ret
  exact addP_of HM1.out HK1.out HO1.out HX1.out (Keep.refl _ _) HX1.out
end
end Go.Proofs.Ytlkniogapdhcpaa
