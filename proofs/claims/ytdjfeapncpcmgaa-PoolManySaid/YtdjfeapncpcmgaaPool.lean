/- package pool: either, priced, step, Step, Ans, New. -/
import Derived.Test.YtdjfeapncpcmgaaPoolQ
import Derived.Test.YtdjfeapncpcmgaaPlan
import Derived.Test.YtdjfeapncpcmgaaRegion
import Derived.Deep.RegionLaw
namespace Go.Proofs.Ytdjfeapncpcmgaa
open Go.RowKit
set_option linter.unusedVariables false
set_option linter.unusedSimpArgs false
set_option maxRecDepth 100000

theorem pool_either (b : Bool) (x y : Int) (w : World) : Calls Try.prog 70 #[.bool b, i64 x, i64 y] w fun e w' => e = .returned (i64 (if b = true then x else y)) ∧ w = w' := by
  cases b
  all_goals
    go_enter Try.func70, Try.ntmps70
    go_wp2
    go_ret
    exact ⟨rfl, rfl⟩

/-- a machine's cells -/
def pcs (av le : Nat) (nd n lim : Int) (nx : Nat) (t : PS) : List Value := [i64 av, i64 le, i64 nd, i64 n, i64 lim, i64 nx, i64 t.had, i64 t.saw, i64 t.extra, i64 (if t.bad = true then 4 else 0), i64 0, .bool false, i64 (if t.bad = true then nd else 0)]

theorem wrap64_in (n : Int) (h : -9223372036854775808 ≤ n ∧ n ≤ 9223372036854775807) : wrap64 n = n := by unfold wrap64; omega
section
variable {B : Nat} {w : World} {m a x : Nat} {lv : Value} {av le : Nat} {nd n lim X : Int}
theorem pm_far {W : List Int} {L : List Acc} {cs : List Value} (hm : MemAt B w m a lv W L) (hx : Blk w x 100 cs) : ¬ MF m a lv x := by
  rintro (h | h | h)
  · exact hx.ne hm.mem (by decide) h
  · exact hx.ne hm.words (by decide) h
  · exact ownBlock_ne hm.log hx (by decide) h.symm
/-- what a step leaves: stage nx is not set yet -/
def PoolP (B : Nat) (w : World) (m a : Nat) (lv : Value) (x av le : Nat) (nd n lim : Int) (nx : Nat) (t : PS) (e : Ending) (w' : World) : Prop :=
  e = .returned (i64 t.next) ∧ ∃ lv', MemAt B w' m a lv' t.W t.L ∧ Blk w' x 100 (pcs av le nd n lim nx t) ∧ Keep (fun k => MF m a lv k ∨ k = x) w w' ∧ (∀ k, lv'.ownBlock = some k → lv.ownBlock = some k ∨ w.heap.size ≤ k)
theorem poolP_of {w1 w2 : World} {lv1 : Value} {t' : PS} {nx : Nat} {cs : List Value} (hm : MemAt B w1 m a lv1 t'.W t'.L) (hk : Keep (MF m a lv) w w1) (ho : ∀ k, lv1.ownBlock = some k → lv.ownBlock = some k ∨ w.heap.size ≤ k)
    (hx1 : Blk w1 x 100 cs) (hk2 : Keep (fun k => k = x) w1 w2) (hx2 : Blk w2 x 100 (pcs av le nd n lim nx t')) : PoolP B w m a lv x av le nd n lim nx t' (.returned (i64 t'.next)) w2 :=
  ⟨rfl, lv1, hm.keep hk2 (fun k h e => pm_far hm hx1 (by have e' : k = x := e; exact e' ▸ h)), hx2, (hk.mono (fun _ h => Or.inl h)).trans (hk2.mono (fun _ h => Or.inr h)) (fun _ _ h => h), ho⟩

theorem mem_CasN {W : List Int} {L : List Acc} (i : Nat) (old y : Int) (hm : MemAt B w m a lv W L) (hi : i < W.length) (hL : L.length ≤ 1000000000) :
    Calls Try.prog 40 #[ptr m, i64 i, i64 old, i64 y] w fun e w' => e = .returned (.bool (rd W i == old)) ∧ MemPost B w m a lv (casW W i old y) (L ++ [⟨3, i, old, y, rd W i == old⟩]) w' := by
  have h := mem_Cas (i : Int) old y hm (by omega) (by omega) hL
  rwa [Int.toNat_natCast] at h
set_option maxHeartbeats 2000000 in
theorem pool_priced (t : PS) (hx : Blk w x 100 (pcs av le nd n lim 2 t)) (hb : t.bad = false) (hn : 1 ≤ n ∧ n ≤ 1048576) (hs : 0 ≤ t.saw ∧ t.saw ≤ 4398046511104) (hl : 0 ≤ lim ∧ lim ≤ 1048576) :
    Calls Try.prog 71 #[ptr x] w fun e w' => ∃ t', t' = (if t.saw < n then { t with next := 7, bad := true } else { t with next := 3, extra := min (t.saw - n) (lim / 2) }) ∧
      e = .returned (i64 t'.next) ∧ Blk w' x 100 (pcs av le nd n lim 2 t') ∧ Keep (fun k => k = x) w w' := by
  obtain ⟨W, L, next, had, saw, extra, bad⟩ := t
  simp only at hx hb hs
  subst hb
  have hx1 : Blk w x 100 [i64 av, i64 le, i64 nd, i64 n, i64 lim, i64 (2 : Nat), i64 (had), i64 (saw), i64 (extra), i64 0, i64 0, .bool false, i64 0] := hx
  have qx := hx1.k13
  have HX := hid hx1
  clear hx hx1
  by_cases c : saw < n
  · go_enter Try.func71, Try.ntmps71
    go_wp2
    go_region
    go_wp2
    go_ret
    exact ⟨rfl, ((((HX.out.set 9 _).set 10 _).set 11 _).set 12 _).drew, (((((Keep.refl (fun k => k = x) w).set ⟨x, 9, none⟩ _ (fun _ => rfl)).set ⟨x, 10, none⟩ _ (fun _ => rfl)).set ⟨x, 11, none⟩ _ (fun _ => rfl)).set ⟨x, 12, none⟩ _ (fun _ => rfl)).drew⟩
  · by_cases c2 : saw - n ≤ lim / 2
    · have hm : min (saw - n) (lim / 2) = saw - n := by omega
      go_enter Try.func71, Try.ntmps71
      go_wp2
      go_region
      go_wp2
      go_region
      go_wp2
      go_ret
      exact ⟨rfl, (HX.out.set 8 _).drew.drew, ((Keep.refl (fun k => k = x) w).set ⟨x, 8, none⟩ _ (fun _ => rfl)).drew.drew⟩
    · have hm : min (saw - n) (lim / 2) = lim / 2 := by omega
      go_enter Try.func71, Try.ntmps71
      go_wp2
      go_region
      go_wp2
      go_region
      go_wp2
      go_ret
      exact ⟨rfl, (HX.out.set 8 _).drew.drew, ((Keep.refl (fun k => k = x) w).set ⟨x, 8, none⟩ _ (fun _ => rfl)).drew.drew⟩

end
end Go.Proofs.Ytdjfeapncpcmgaa
