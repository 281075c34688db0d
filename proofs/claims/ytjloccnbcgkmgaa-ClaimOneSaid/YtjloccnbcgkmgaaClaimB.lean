/- package claim: take. -/
import Derived.Test.YtjloccnbcgkmgaaClaim
namespace Go.Proofs.Ytjloccnbcgkmgaa
open Go.RowKit
set_option linter.unusedVariables false
set_option linter.unusedSimpArgs false
set_option maxRecDepth 100000
section
variable {B : Nat} {w : World} {m a x : Nat} {lv : Value} {W : List Int} {L : List Acc} {v0 v1 v2 v3 v4 v5 v6 v7 : Value}
theorem cm_far {cs : List Value} (hm : MemAt B w m a lv W L) (hx : Blk w x 73 cs) : ¬ MF m a lv x := by
  rintro (h | h | h)
  · exact hx.ne hm.mem (by decide) h
  · exact hx.ne hm.words (by decide) h
  · exact ownBlock_ne hm.log hx (by decide) h.symm
/-- what a step leaves -/
def ClP (B : Nat) (w : World) (m a : Nat) (lv : Value) (x : Nat) (cs : List Value) (W' : List Int) (L' : List Acc) (w' : World) : Prop :=
  ∃ lv', MemAt B w' m a lv' W' L' ∧ Blk w' x 73 cs ∧ Keep (fun k => MF m a lv k ∨ k = x) w w' ∧ (∀ k, lv'.ownBlock = some k → lv.ownBlock = some k ∨ w.heap.size ≤ k)
theorem clP_of {w1 w2 : World} {lv1 : Value} {W' : List Int} {L' : List Acc} {cs cs1 : List Value} (hm : MemAt B w1 m a lv1 W' L') (hk : Keep (MF m a lv) w w1) (ho : ∀ k, lv1.ownBlock = some k → lv.ownBlock = some k ∨ w.heap.size ≤ k)
    (hx1 : Blk w1 x 73 cs1) (hk2 : Keep (fun k => k = x) w1 w2) (hx2 : Blk w2 x 73 cs) : ClP B w m a lv x cs W' L' w2 :=
  ⟨lv1, hm.keep hk2 (fun k h e => cm_far hm hx1 (by have e' : k = x := e; exact e' ▸ h)), hx2, (hk.mono (fun _ h => Or.inl h)).trans (hk2.mono (fun _ h => Or.inr h)) (fun _ _ h => h), ho⟩
set_option maxHeartbeats 1000000 in
theorem claim_take_no (wi gl o n c : Nat) (saw : Int) (hm : MemAt B w m a lv W L) (hx : Blk w x 73 [v0, v1, v2, v3, v4, v5, v6, v7, .slice (some ⟨gl, o, none⟩) n c, .bool true, i64 saw, i64 0, .bool false, i64 0, i64 0, .bool false, i64 0]) (hn : 1 ≤ n) (hc : n ≤ c) (hi : wi < W.length) (hL : L.length ≤ 1000000000) (hq : (rd W wi == saw) = false) :
    Calls Try.prog 42 #[ptr x, ptr m, i64 (wi : Int)] w fun e w' => e = .returned (.tuple #[]) ∧
      ClP B w m a lv x [v0, v1, v2, v3, v4, v5, v6, v7, .slice (some ⟨gl, if c = 1 then o else o + 1, none⟩) (n - 1) (c - 1), .bool false, i64 saw, i64 0, .bool (decide (n = 1)), i64 (if n = 1 then 3 else 0), i64 0, .bool false, i64 0] (casW W wi saw (pNext6 saw 1)) (L ++ [⟨3, (wi : Nat), saw, pNext6 saw 1, false⟩]) w' := by
  have qx := hx.k17
  have HX := hid hx
  have HM := hid hm
  have HC := hid (show Calls _ _ _ _ _ from mem_Cas (wi : Int) saw (pNext6 saw 1) hm (by omega) (by omega) hL)
  rw [Int.toNat_natCast, hq] at HC
  have HN := hid (fun (w2 : World) (hb : Blk w2 x 73 [v0, v1, v2, v3, v4, v5, v6, v7, .slice (some ⟨gl, o, none⟩) n c, .bool true, i64 saw, i64 0, .bool false, i64 0, i64 0, .bool false, i64 0]) => claim_next gl o n c true saw hb hn hc)
  generalize [v0, v1, v2, v3, v4, v5, v6, v7, .slice (some ⟨gl, if c = 1 then o else o + 1, none⟩) (n - 1) (c - 1), .bool false, i64 saw, i64 0, .bool (decide (n = 1)), i64 (if n = 1 then 3 else 0), i64 0, .bool false, i64 0] = nx at *
  clear hx hm hq
  go_enter Try.func42, Try.ntmps42
  go_wp2_with fail
  refine (slot_Turn saw 1 (by omega) _).mono ?_
  rintro e w1 ⟨rfl, rfl⟩
  go_wp2_with fail
  refine HC.out.mono ?_
  rintro e w2 ⟨rfl, lv2, hm, hk, ho⟩
  have HX2 := hid (hk.blk HX.out (cm_far HM.out HX.out))
  have qx2 := HX2.out.k17
  have HM2 := hid hm
  have HK2 := hid hk
  have HO2 := hid ho
  clear hm hk ho qx HC
  go_wp2_with fail
  refine (HN.out _ HX2.out).mono ?_
  rintro e w3 ⟨rfl, hk, hb⟩
  have HK3 := hid hk
  have HX3 := hid hb
  clear hk hb qx2
  go_wp2_with fail
  refine bodyPost_ret (results_none rfl _ _ _) rfl ?_
  exact ⟨rfl, clP_of HM2.out HK2.out HO2.out HX2.out HK3.out HX3.out⟩
set_option maxHeartbeats 1000000 in
theorem claim_take_yes (wi gl o n c : Nat) (saw : Int) (tk : Int) (hm : MemAt B w m a lv W L) (hx : Blk w x 73 [v0, v1, v2, v3, v4, v5, v6, v7, .slice (some ⟨gl, o, none⟩) n c, .bool true, i64 saw, i64 0, .bool false, i64 0, i64 0, .bool false, i64 0]) (hn : 1 ≤ n) (hc : n ≤ c) (hi : wi < W.length) (hL : L.length ≤ 1000000000) (hq : (rd W wi == saw) = true)
    (hga : ¬ MF m a lv gl) (hg : w.cell? ⟨gl, o, none⟩ = some (i64 tk)) :
    Calls Try.prog 42 #[ptr x, ptr m, i64 (wi : Int)] w fun e w' => e = .returned (.tuple #[]) ∧
      ClP B w m a lv x [v0, v1, v2, v3, v4, v5, v6, v7, .slice (some ⟨gl, o, none⟩) n c, .bool true, i64 saw, i64 (pNext6 saw 1), .bool true, i64 0, i64 tk, .bool false, i64 0] (casW W wi saw (pNext6 saw 1)) (L ++ [⟨3, (wi : Nat), saw, pNext6 saw 1, true⟩]) w' := by
  have qx := hx.k17
  have HX := hid hx
  have HM := hid hm
  have HC := hid (show Calls _ _ _ _ _ from mem_Cas (wi : Int) saw (pNext6 saw 1) hm (by omega) (by omega) hL)
  rw [Int.toNat_natCast, hq] at HC
  have HG := hid hg
  clear hx hm hq hg
  go_enter Try.func42, Try.ntmps42
  go_wp2_with fail
  refine (slot_Turn saw 1 (by omega) _).mono ?_
  rintro e w1 ⟨rfl, rfl⟩
  go_wp2_with fail
  refine HC.out.mono ?_
  rintro e w2 ⟨rfl, lv2, hm, hk, ho⟩
  have HX2 := hid (hk.blk HX.out (cm_far HM.out HX.out))
  have qx2 := HX2.out.k17
  have HM2 := hid hm
  have HK2 := hid hk
  have HO2 := hid ho
  clear hm hk ho qx HC
  have qg : w2.cell? ⟨gl, o, none⟩ = some (i64 tk) := (cell_old HK2.out (World.block_lt_of_cell? _ _ HG.out) hga _).trans HG.out
  go_wp2_with fail
  have h := ((((((HX2.out.set 13 (i64 0)).set 14 (i64 tk)).set 15 (.bool false)).set 16 (i64 0)).set 11 (i64 (pNext6 saw 1))).set 12 (.bool true))
  simp only [List.set_cons_succ, List.set_cons_zero] at h
  go_end0
  refine ⟨rfl, clP_of HM2.out HK2.out HO2.out HX2.out ?_ h⟩
  repeat (with_reducible first | exact Keep.refl _ _ | refine Keep.set ?_ _ _ (fun _ => rfl))
end
end Go.Proofs.Ytjloccnbcgkmgaa
