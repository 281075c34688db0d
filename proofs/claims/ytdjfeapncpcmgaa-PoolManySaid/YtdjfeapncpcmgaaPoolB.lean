/- package pool: stages 2 of step. -/
import Derived.Test.YtdjfeapncpcmgaaPool
import Derived.Deep.RegionLaw
namespace Go.Proofs.Ytdjfeapncpcmgaa
open Go.RowKit
set_option linter.unusedVariables false
set_option linter.unusedSimpArgs false
set_option maxRecDepth 100000
section
variable {B : Nat} {w : World} {m a x : Nat} {lv : Value} {av le : Nat} {nd n lim X : Int}

set_option maxHeartbeats 4000000 in
theorem pool_step2 (t : PS) (hm : MemAt B w m a lv t.W t.L) (hx : Blk w x 100 (pcs av le nd n lim 2 t)) (hi : PInv av le n lim X t) (h0 : t.next = 2) (hX : X ≤ 4398046511104) (hL : t.L.length ≤ 1000000000) :
    Calls Try.prog 54 #[ptr x, ptr m] w (PoolP B w m a lv x av le nd n lim 2 (pNext av le n lim t)) := by
  obtain ⟨W, L, next, had, saw, extra, bad⟩ := t
  obtain ⟨la, ll, ne, n1, m1, wl, wa, nx, s1, s3, s4, s5, b⟩ := hi
  simp only at *
  subst h0
  obtain rfl : bad = false := by
    cases bad with
    | false => rfl
    | true => have := b rfl; omega
  have hx1 : Blk w x 100 [i64 av, i64 le, i64 nd, i64 n, i64 lim, i64 (2 : Nat), i64 (had), i64 (saw), i64 (extra), i64 0, i64 0, .bool false, i64 0] := hx
  have qx := hx1.k13
  have HX := hid hx1
  have HM := hid hm
  have hxm := pm_far hm hx1
  clear hx hx1 hm b nx
  by_cases c : rd W av < n
  · have e : pNext av le n lim ⟨W, L, 2, had, saw, extra, false⟩ = ⟨W, L ++ [⟨1, av, rd W av, 0, false⟩], 7, had, rd W av, extra, true⟩ := by simp [pNext, c]
    rw [e]
    clear e
    go_enter Try.func54, Try.ntmps54
    go_wp2_with fail
    refine (mem_Load av HM.out (by omega) (by omega) hL).mono ?_
    rintro e w1 ⟨rfl, lv1, hm, hk, ho⟩
    rw [Int.toNat_natCast] at *
    have hb := hk.blk HX.out hxm
    have qx1 := hb.k13
    have HM1 := hid hm
    have HK1 := hid hk
    have HO1 := hid ho
    have HX1 := hid hb
    clear hm hk ho hb qx
    go_wp2_with fail
    have HX2 := hid (HX1.out.set 7 (i64 (rd W av)))
    have HK2 : Hid (Keep (fun k => k = x) w1 (w1.setCell ⟨x, 7, none⟩ (i64 (rd W av)))) := hid ((Keep.refl _ _).set _ _ (fun _ => rfl))
    clear qx1
    generalize w1.setCell ⟨x, 7, none⟩ (i64 (rd W av)) = w2 at *
    have qx2 : _ := (show Blk w2 x 100 [i64 av, i64 le, i64 nd, i64 n, i64 lim, i64 (2 : Nat), i64 (had), i64 (rd W av), i64 (extra), i64 0, i64 0, .bool false, i64 0] from HX2.out).k13
    refine (pool_priced ⟨W, L ++ [⟨1, av, rd W av, 0, false⟩], 2, had, rd W av, extra, false⟩ HX2.out rfl n1 ⟨wa.1, by show rd W av ≤ _; omega⟩ m1).mono ?_
    rintro e w3 ⟨t', ht, rfl, hb, hk⟩
    rw [if_pos (by show rd W av < n; omega)] at ht
    subst ht
    have HB := hid hb
    have HK := hid hk
    clear hb hk qx2
    go_wp2_with fail
    go_ret
    exact poolP_of (t' := _) HM1.out HK1.out HO1.out HX1.out (HK2.out.trans HK.out (fun _ _ h => h)) HB.out
  · have e : pNext av le n lim ⟨W, L, 2, had, saw, extra, false⟩ = ⟨W, L ++ [⟨1, av, rd W av, 0, false⟩], 3, had, rd W av, min (rd W av - n) (lim / 2), false⟩ := by simp [pNext, c]
    rw [e]
    clear e
    go_enter Try.func54, Try.ntmps54
    go_wp2_with fail
    refine (mem_Load av HM.out (by omega) (by omega) hL).mono ?_
    rintro e w1 ⟨rfl, lv1, hm, hk, ho⟩
    rw [Int.toNat_natCast] at *
    have hb := hk.blk HX.out hxm
    have qx1 := hb.k13
    have HM1 := hid hm
    have HK1 := hid hk
    have HO1 := hid ho
    have HX1 := hid hb
    clear hm hk ho hb qx
    go_wp2_with fail
    have HX2 := hid (HX1.out.set 7 (i64 (rd W av)))
    have HK2 : Hid (Keep (fun k => k = x) w1 (w1.setCell ⟨x, 7, none⟩ (i64 (rd W av)))) := hid ((Keep.refl _ _).set _ _ (fun _ => rfl))
    clear qx1
    generalize w1.setCell ⟨x, 7, none⟩ (i64 (rd W av)) = w2 at *
    have qx2 : _ := (show Blk w2 x 100 [i64 av, i64 le, i64 nd, i64 n, i64 lim, i64 (2 : Nat), i64 (had), i64 (rd W av), i64 (extra), i64 0, i64 0, .bool false, i64 0] from HX2.out).k13
    refine (pool_priced ⟨W, L ++ [⟨1, av, rd W av, 0, false⟩], 2, had, rd W av, extra, false⟩ HX2.out rfl n1 ⟨wa.1, by show rd W av ≤ _; omega⟩ m1).mono ?_
    rintro e w3 ⟨t', ht, rfl, hb, hk⟩
    rw [if_neg (by show ¬ rd W av < n; omega)] at ht
    subst ht
    have HB := hid hb
    have HK := hid hk
    clear hb hk qx2
    go_wp2_with fail
    go_ret
    exact poolP_of (t' := _) HM1.out HK1.out HO1.out HX1.out (HK2.out.trans HK.out (fun _ _ h => h)) HB.out

end
end Go.Proofs.Ytdjfeapncpcmgaa
