/- package claim: Step. -/
import Derived.Test.YtjloccnbcgkmgaaClaimB
namespace Go.Proofs.Ytjloccnbcgkmgaa
open Go.RowKit
set_option linter.unusedVariables false
set_option linter.unusedSimpArgs false
set_option maxRecDepth 100000
section
variable {B : Nat} {w : World} {m a x : Nat} {lv : Value} {W : List Int} {L : List Acc} {tt sr g lm r : Int} {K : Nat} {PA : Option Addr} {pn pc : Nat} {LA : Option Addr} {ln lc : Nat}
set_option maxHeartbeats 1000000 in
theorem claim_Step_end {left : Value} {sn : Bool} {saw st er na : Int} (hx : Blk w x 73 [i64 tt, i64 sr, i64 g, i64 lm, i64 r, i64 (K : Int), .slice PA pn pc, .slice LA ln lc, left, .bool sn, i64 saw, i64 st, .bool true, i64 er, i64 na, .bool false, i64 0]) :
    Calls Try.prog 14 #[ptr x, ptr m] w fun e w' => e = .returned (.bool true) ∧ w = w' := by
  have qx := hx.k17
  clear hx
  go_enter Try.func14, Try.ntmps14
  go_wp2_with fail
  go_ret
  exact ⟨rfl, rfl⟩
set_option maxHeartbeats 2000000 in
theorem claim_look_free (wi gl o n c : Nat) (saw : Int) (tk : Int) (hm : MemAt B w m a lv W L) (hx : Blk w x 73 [i64 tt, i64 sr, i64 g, i64 lm, i64 r, i64 (K : Int), .slice PA pn pc, .slice LA ln lc, .slice (some ⟨gl, o, none⟩) n c, .bool false, i64 saw, i64 0, .bool false, i64 0, i64 0, .bool false, i64 0]) (hn : 1 ≤ n) (hc : n ≤ c) (hi : wi < W.length) (hL : L.length ≤ 1000000000)
    (hg : w.cell? ⟨gl, o, none⟩ = some (i64 tk)) (hq : st10 (rd W wi) = 0) (hp : ∀ w', Calls Try.prog 20 #[.agg #[i64 tt, i64 sr, i64 g, i64 lm, i64 r, i64 (K : Int), .slice PA pn pc, .slice LA ln lc], i64 tk] w' (Ret (i64 (wi : Int)) w')) :
    Calls Try.prog 14 #[ptr x, ptr m] w fun e w' => e = .returned (.bool false) ∧
      ClP B w m a lv x [i64 tt, i64 sr, i64 g, i64 lm, i64 r, i64 (K : Int), .slice PA pn pc, .slice LA ln lc, .slice (some ⟨gl, o, none⟩) n c, .bool true, i64 (rd W wi), i64 0, .bool false, i64 0, i64 0, .bool false, i64 0] W (L ++ [⟨1, (wi : Nat), rd W wi, 0, false⟩]) w' := by
  have qx := hx.k17
  have HX := hid hx
  have HM := hid hm
  have HG := hid hg
  have hxm := cm_far hm hx
  have HP := hid hp
  clear hx hm hg hp
  go_enter Try.func14, Try.ntmps14
  go_wp2_with fail
  clear qx
  apply wp_region_text (WI := fun S wx => Keep0 w wx) (by kernel_rfl) (by kernel_rfl)
  case hob =>
    apply Oblig.cons
    case h =>
      intro S w1 hwi hSi hd hcl
      apply StepOk.intro
      intro K hK
      have hn0 : 0 < n := hn
      have qx3 := (hwi.blk HX.out (fun h => h)).k17
      have qg3 := (cell_old hwi (World.block_lt_of_cell? _ _ HG.out) (fun h => h) _).trans HG.out
      go_simp
      apply hK
      · rfl
      · conv => (lhs; whnf)
      · exact hwi
    simp only [put_lit, put_none]
    try dsimp only [List.set_cons_succ, List.set_cons_zero]
    apply Oblig.cons
    case h =>
      intro S w1 hwi hSi hd hcl
      apply StepOk.intro
      intro K hK
      have hn0 : 0 < n := hn
      have qx3 := (hwi.blk HX.out (fun h => h)).k17
      have qg3 := (cell_old hwi (World.block_lt_of_cell? _ _ HG.out) (fun h => h) _).trans HG.out
      go_simp
      apply hK
      · rfl
      · conv => (lhs; whnf)
      · exact hwi
    simp only [put_lit, put_none]
    try dsimp only [List.set_cons_succ, List.set_cons_zero]
    apply Oblig.cons
    case h =>
      intro S w1 hwi hSi hd hcl
      apply StepOk.intro
      intro K hK
      have hn0 : 0 < n := hn
      have qx3 := (hwi.blk HX.out (fun h => h)).k17
      have qg3 := (cell_old hwi (World.block_lt_of_cell? _ _ HG.out) (fun h => h) _).trans HG.out
      go_simp
      apply hK
      · rfl
      · conv => (lhs; whnf)
      · exact hwi
    simp only [put_lit, put_none]
    try dsimp only [List.set_cons_succ, List.set_cons_zero]
    apply Oblig.cons
    case h =>
      intro S w1 hwi hSi hd hcl
      apply StepOk.intro
      intro K hK
      have hn0 : 0 < n := hn
      have qx3 := (hwi.blk HX.out (fun h => h)).k17
      have qg3 := (cell_old hwi (World.block_lt_of_cell? _ _ HG.out) (fun h => h) _).trans HG.out
      go_simp
      apply hK
      · rfl
      · conv => (lhs; whnf)
      · exact hwi
    simp only [put_lit, put_none]
    try dsimp only [List.set_cons_succ, List.set_cons_zero]
    apply Oblig.cons
    case h =>
      intro S w1 hwi hSi hd hcl
      apply StepOk.intro
      intro K hK
      have hn0 : 0 < n := hn
      have qx3 := (hwi.blk HX.out (fun h => h)).k17
      have qg3 := (cell_old hwi (World.block_lt_of_cell? _ _ HG.out) (fun h => h) _).trans HG.out
      go_simp
      apply hK
      · rfl
      · conv => (lhs; whnf)
      · exact hwi
    simp only [put_lit, put_none]
    try dsimp only [List.set_cons_succ, List.set_cons_zero]
    apply Oblig.cons
    case h =>
      intro S w1 hwi hSi hd hcl
      apply StepOk.intro
      intro K hK
      have hn0 : 0 < n := hn
      have qx3 := (hwi.blk HX.out (fun h => h)).k17
      have qg3 := (cell_old hwi (World.block_lt_of_cell? _ _ HG.out) (fun h => h) _).trans HG.out
      go_simp
      apply hK
      · rfl
      · conv => (lhs; whnf)
      · exact hwi
    simp only [put_lit, put_none]
    try dsimp only [List.set_cons_succ, List.set_cons_zero]
    apply Oblig.cons
    case h =>
      intro S w1 hwi hSi hd hcl
      apply StepOk.intro
      intro K hK
      have hn0 : 0 < n := hn
      have qx3 := (hwi.blk HX.out (fun h => h)).k17
      have qg3 := (cell_old hwi (World.block_lt_of_cell? _ _ HG.out) (fun h => h) _).trans HG.out
      go_simp
      apply hK
      · rfl
      · conv => (lhs; whnf)
      · exact hwi
    simp only [put_lit, put_none]
    try dsimp only [List.set_cons_succ, List.set_cons_zero]
    apply Oblig.cons
    case h =>
      intro S w1 hwi hSi hd hcl
      apply StepOk.intro
      intro K hK
      have hn0 : 0 < n := hn
      have qx3 := (hwi.blk HX.out (fun h => h)).k17
      have qg3 := (cell_old hwi (World.block_lt_of_cell? _ _ HG.out) (fun h => h) _).trans HG.out
      go_simp
      apply hK
      · rfl
      · conv => (lhs; whnf)
      · exact hwi
    simp only [put_lit, put_none]
    try dsimp only [List.set_cons_succ, List.set_cons_zero]
    apply Oblig.cons
    case h =>
      intro S w1 hwi hSi hd hcl
      apply StepOk.intro
      intro K hK
      have hn0 : 0 < n := hn
      have qx3 := (hwi.blk HX.out (fun h => h)).k17
      have qg3 := (cell_old hwi (World.block_lt_of_cell? _ _ HG.out) (fun h => h) _).trans HG.out
      go_simp
      apply hK
      · rfl
      · conv => (lhs; whnf)
      · exact hwi
    simp only [put_lit, put_none]
    try dsimp only [List.set_cons_succ, List.set_cons_zero]
    apply Oblig.cons
    case h =>
      intro S w1 hwi hSi hd hcl
      apply StepOk.intro
      intro K hK
      have hn0 : 0 < n := hn
      have qx3 := (hwi.blk HX.out (fun h => h)).k17
      have qg3 := (cell_old hwi (World.block_lt_of_cell? _ _ HG.out) (fun h => h) _).trans HG.out
      go_simp
      apply hK
      · rfl
      · conv => (lhs; whnf)
      · exact hwi
    simp only [put_lit, put_none]
    try dsimp only [List.set_cons_succ, List.set_cons_zero]
    apply Oblig.cons
    case h =>
      intro S w1 hwi hSi hd hcl
      apply StepOk.intro
      intro K hK
      have hn0 : 0 < n := hn
      have qx3 := (hwi.blk HX.out (fun h => h)).k17
      have qg3 := (cell_old hwi (World.block_lt_of_cell? _ _ HG.out) (fun h => h) _).trans HG.out
      go_simp
      refine (HP.out _).mono ?_
      rintro e w2 ⟨rfl, hk⟩
      apply hK
      · rfl
      · conv => (lhs; whnf)
      · exact hwi.trans hk (fun _ _ h => h)
    simp only [put_lit, put_none]
    try dsimp only [List.set_cons_succ, List.set_cons_zero]
    apply Oblig.cons
    case h =>
      intro S w1 hwi hSi hd hcl
      apply StepOk.intro
      intro K hK
      have hn0 : 0 < n := hn
      have qx3 := (hwi.blk HX.out (fun h => h)).k17
      have qg3 := (cell_old hwi (World.block_lt_of_cell? _ _ HG.out) (fun h => h) _).trans HG.out
      go_simp
      apply hK
      · rfl
      · conv => (lhs; whnf)
      · exact hwi
    simp only [put_lit, put_none]
    try dsimp only [List.set_cons_succ, List.set_cons_zero]
    exact Oblig.nil
  case h0 =>
    exact (Keep.refl _ _).drew
  case hend =>
    intro S wx hwi hall
    have HKX := hid hwi
    have hb := hwi.blk HX.out (fun h => h)
    have HX1 := hid hb
    have qx1 := hb.k17
    have HM1 := hid (HM.out.same hwi)
    clear hb hwi hall
    go_wp2_with fail
    refine (mem_Load (wi : Int) HM1.out (by omega) (by omega) hL).mono ?_
    rintro e w2 ⟨rfl, hpo⟩
    rw [Int.toNat_natCast] at *
    obtain ⟨lv2, hm, hk, ho⟩ := hpo.before HKX.out
    have HX2 := hid (hk.blk HX.out hxm)
    have qx2 := HX2.out.k17
    have HM2 := hid hm
    have HK2 := hid hk
    have HO2 := hid ho
    clear hm hk ho hpo qx1 HX1 HM1 HKX
    go_wp2_with fail
    have h := (HX2.out.set 10 (i64 (rd W wi))).set 9 (.bool true)
    simp only [List.set_cons_succ, List.set_cons_zero] at h
    have HX3 := hid h
    have HK3 : Hid (Keep (fun k => k = x) w2 _) := hid (((Keep.refl (fun k => k = x) w2).set ⟨x, 10, none⟩ (i64 (rd W wi)) (fun _ => rfl)).set ⟨x, 9, none⟩ (.bool true) (fun _ => rfl))
    clear h qx2
    generalize (w2.setCell ⟨x, 10, none⟩ (i64 (rd W wi))).setCell ⟨x, 9, none⟩ (.bool true) = w3 at *
    have qx3 := HX3.out.k17
    refine (slot_State (rd W wi) _).mono ?_
    rintro e w4 ⟨rfl, rfl⟩
    rw [hq]
    go_wp2_with fail
    go_ret
    exact ⟨rfl, clP_of HM2.out HK2.out HO2.out HX2.out HK3.out HX3.out⟩
set_option maxHeartbeats 2000000 in
theorem claim_look_next (wi gl o n c : Nat) (saw : Int) (tk : Int) (hm : MemAt B w m a lv W L) (hx : Blk w x 73 [i64 tt, i64 sr, i64 g, i64 lm, i64 r, i64 (K : Int), .slice PA pn pc, .slice LA ln lc, .slice (some ⟨gl, o, none⟩) n c, .bool false, i64 saw, i64 0, .bool false, i64 0, i64 0, .bool false, i64 0]) (hn : 1 ≤ n) (hc : n ≤ c) (hi : wi < W.length) (hL : L.length ≤ 1000000000)
    (hg : w.cell? ⟨gl, o, none⟩ = some (i64 tk)) (hq : ¬ st10 (rd W wi) = 0) (hp : ∀ w', Calls Try.prog 20 #[.agg #[i64 tt, i64 sr, i64 g, i64 lm, i64 r, i64 (K : Int), .slice PA pn pc, .slice LA ln lc], i64 tk] w' (Ret (i64 (wi : Int)) w')) :
    Calls Try.prog 14 #[ptr x, ptr m] w fun e w' => e = .returned (.bool (decide (n = 1))) ∧
      ClP B w m a lv x [i64 tt, i64 sr, i64 g, i64 lm, i64 r, i64 (K : Int), .slice PA pn pc, .slice LA ln lc, .slice (some ⟨gl, if c = 1 then o else o + 1, none⟩) (n - 1) (c - 1), .bool false, i64 (rd W wi), i64 0, .bool (decide (n = 1)), i64 (if n = 1 then 3 else 0), i64 0, .bool false, i64 0] W (L ++ [⟨1, (wi : Nat), rd W wi, 0, false⟩]) w' := by
  have HN := hid (fun (w2 : World) (hb : Blk w2 x 73 [i64 tt, i64 sr, i64 g, i64 lm, i64 r, i64 (K : Int), .slice PA pn pc, .slice LA ln lc, .slice (some ⟨gl, o, none⟩) n c, .bool true, i64 (rd W wi), i64 0, .bool false, i64 0, i64 0, .bool false, i64 0]) => claim_next gl o n c true (rd W wi) hb hn hc)
  generalize decide (n = 1) = bn at *
  generalize (if n = 1 then (3 : Int) else 0) = er at *
  generalize (if c = 1 then o else o + 1) = o2 at *
  have qx := hx.k17
  have HX := hid hx
  have HM := hid hm
  have HG := hid hg
  have hxm := cm_far hm hx
  have HP := hid hp
  clear hx hm hg hp
  go_enter Try.func14, Try.ntmps14
  go_wp2_with fail
  clear qx
  apply wp_region_text (WI := fun S wx => Keep0 w wx) (by kernel_rfl) (by kernel_rfl)
  case hob =>
    apply Oblig.cons
    case h =>
      intro S w1 hwi hSi hd hcl
      apply StepOk.intro
      intro K hK
      have hn0 : 0 < n := hn
      have qx3 := (hwi.blk HX.out (fun h => h)).k17
      have qg3 := (cell_old hwi (World.block_lt_of_cell? _ _ HG.out) (fun h => h) _).trans HG.out
      go_simp
      apply hK
      · rfl
      · conv => (lhs; whnf)
      · exact hwi
    simp only [put_lit, put_none]
    try dsimp only [List.set_cons_succ, List.set_cons_zero]
    apply Oblig.cons
    case h =>
      intro S w1 hwi hSi hd hcl
      apply StepOk.intro
      intro K hK
      have hn0 : 0 < n := hn
      have qx3 := (hwi.blk HX.out (fun h => h)).k17
      have qg3 := (cell_old hwi (World.block_lt_of_cell? _ _ HG.out) (fun h => h) _).trans HG.out
      go_simp
      apply hK
      · rfl
      · conv => (lhs; whnf)
      · exact hwi
    simp only [put_lit, put_none]
    try dsimp only [List.set_cons_succ, List.set_cons_zero]
    apply Oblig.cons
    case h =>
      intro S w1 hwi hSi hd hcl
      apply StepOk.intro
      intro K hK
      have hn0 : 0 < n := hn
      have qx3 := (hwi.blk HX.out (fun h => h)).k17
      have qg3 := (cell_old hwi (World.block_lt_of_cell? _ _ HG.out) (fun h => h) _).trans HG.out
      go_simp
      apply hK
      · rfl
      · conv => (lhs; whnf)
      · exact hwi
    simp only [put_lit, put_none]
    try dsimp only [List.set_cons_succ, List.set_cons_zero]
    apply Oblig.cons
    case h =>
      intro S w1 hwi hSi hd hcl
      apply StepOk.intro
      intro K hK
      have hn0 : 0 < n := hn
      have qx3 := (hwi.blk HX.out (fun h => h)).k17
      have qg3 := (cell_old hwi (World.block_lt_of_cell? _ _ HG.out) (fun h => h) _).trans HG.out
      go_simp
      apply hK
      · rfl
      · conv => (lhs; whnf)
      · exact hwi
    simp only [put_lit, put_none]
    try dsimp only [List.set_cons_succ, List.set_cons_zero]
    apply Oblig.cons
    case h =>
      intro S w1 hwi hSi hd hcl
      apply StepOk.intro
      intro K hK
      have hn0 : 0 < n := hn
      have qx3 := (hwi.blk HX.out (fun h => h)).k17
      have qg3 := (cell_old hwi (World.block_lt_of_cell? _ _ HG.out) (fun h => h) _).trans HG.out
      go_simp
      apply hK
      · rfl
      · conv => (lhs; whnf)
      · exact hwi
    simp only [put_lit, put_none]
    try dsimp only [List.set_cons_succ, List.set_cons_zero]
    apply Oblig.cons
    case h =>
      intro S w1 hwi hSi hd hcl
      apply StepOk.intro
      intro K hK
      have hn0 : 0 < n := hn
      have qx3 := (hwi.blk HX.out (fun h => h)).k17
      have qg3 := (cell_old hwi (World.block_lt_of_cell? _ _ HG.out) (fun h => h) _).trans HG.out
      go_simp
      apply hK
      · rfl
      · conv => (lhs; whnf)
      · exact hwi
    simp only [put_lit, put_none]
    try dsimp only [List.set_cons_succ, List.set_cons_zero]
    apply Oblig.cons
    case h =>
      intro S w1 hwi hSi hd hcl
      apply StepOk.intro
      intro K hK
      have hn0 : 0 < n := hn
      have qx3 := (hwi.blk HX.out (fun h => h)).k17
      have qg3 := (cell_old hwi (World.block_lt_of_cell? _ _ HG.out) (fun h => h) _).trans HG.out
      go_simp
      apply hK
      · rfl
      · conv => (lhs; whnf)
      · exact hwi
    simp only [put_lit, put_none]
    try dsimp only [List.set_cons_succ, List.set_cons_zero]
    apply Oblig.cons
    case h =>
      intro S w1 hwi hSi hd hcl
      apply StepOk.intro
      intro K hK
      have hn0 : 0 < n := hn
      have qx3 := (hwi.blk HX.out (fun h => h)).k17
      have qg3 := (cell_old hwi (World.block_lt_of_cell? _ _ HG.out) (fun h => h) _).trans HG.out
      go_simp
      apply hK
      · rfl
      · conv => (lhs; whnf)
      · exact hwi
    simp only [put_lit, put_none]
    try dsimp only [List.set_cons_succ, List.set_cons_zero]
    apply Oblig.cons
    case h =>
      intro S w1 hwi hSi hd hcl
      apply StepOk.intro
      intro K hK
      have hn0 : 0 < n := hn
      have qx3 := (hwi.blk HX.out (fun h => h)).k17
      have qg3 := (cell_old hwi (World.block_lt_of_cell? _ _ HG.out) (fun h => h) _).trans HG.out
      go_simp
      apply hK
      · rfl
      · conv => (lhs; whnf)
      · exact hwi
    simp only [put_lit, put_none]
    try dsimp only [List.set_cons_succ, List.set_cons_zero]
    apply Oblig.cons
    case h =>
      intro S w1 hwi hSi hd hcl
      apply StepOk.intro
      intro K hK
      have hn0 : 0 < n := hn
      have qx3 := (hwi.blk HX.out (fun h => h)).k17
      have qg3 := (cell_old hwi (World.block_lt_of_cell? _ _ HG.out) (fun h => h) _).trans HG.out
      go_simp
      apply hK
      · rfl
      · conv => (lhs; whnf)
      · exact hwi
    simp only [put_lit, put_none]
    try dsimp only [List.set_cons_succ, List.set_cons_zero]
    apply Oblig.cons
    case h =>
      intro S w1 hwi hSi hd hcl
      apply StepOk.intro
      intro K hK
      have hn0 : 0 < n := hn
      have qx3 := (hwi.blk HX.out (fun h => h)).k17
      have qg3 := (cell_old hwi (World.block_lt_of_cell? _ _ HG.out) (fun h => h) _).trans HG.out
      go_simp
      refine (HP.out _).mono ?_
      rintro e w2 ⟨rfl, hk⟩
      apply hK
      · rfl
      · conv => (lhs; whnf)
      · exact hwi.trans hk (fun _ _ h => h)
    simp only [put_lit, put_none]
    try dsimp only [List.set_cons_succ, List.set_cons_zero]
    apply Oblig.cons
    case h =>
      intro S w1 hwi hSi hd hcl
      apply StepOk.intro
      intro K hK
      have hn0 : 0 < n := hn
      have qx3 := (hwi.blk HX.out (fun h => h)).k17
      have qg3 := (cell_old hwi (World.block_lt_of_cell? _ _ HG.out) (fun h => h) _).trans HG.out
      go_simp
      apply hK
      · rfl
      · conv => (lhs; whnf)
      · exact hwi
    simp only [put_lit, put_none]
    try dsimp only [List.set_cons_succ, List.set_cons_zero]
    exact Oblig.nil
  case h0 =>
    exact (Keep.refl _ _).drew
  case hend =>
    intro S wx hwi hall
    have HKX := hid hwi
    have hb := hwi.blk HX.out (fun h => h)
    have HX1 := hid hb
    have qx1 := hb.k17
    have HM1 := hid (HM.out.same hwi)
    clear hb hwi hall
    go_wp2_with fail
    refine (mem_Load (wi : Int) HM1.out (by omega) (by omega) hL).mono ?_
    rintro e w2 ⟨rfl, hpo⟩
    rw [Int.toNat_natCast] at *
    obtain ⟨lv2, hm, hk, ho⟩ := hpo.before HKX.out
    have HX2 := hid (hk.blk HX.out hxm)
    have qx2 := HX2.out.k17
    have HM2 := hid hm
    have HK2 := hid hk
    have HO2 := hid ho
    clear hm hk ho hpo qx1 HX1 HM1 HKX
    go_wp2_with fail
    have h := (HX2.out.set 10 (i64 (rd W wi))).set 9 (.bool true)
    simp only [List.set_cons_succ, List.set_cons_zero] at h
    have HX3 := hid h
    have HK3 : Hid (Keep (fun k => k = x) w2 _) := hid (((Keep.refl (fun k => k = x) w2).set ⟨x, 10, none⟩ (i64 (rd W wi)) (fun _ => rfl)).set ⟨x, 9, none⟩ (.bool true) (fun _ => rfl))
    clear h qx2
    generalize (w2.setCell ⟨x, 10, none⟩ (i64 (rd W wi))).setCell ⟨x, 9, none⟩ (.bool true) = w3 at *
    have qx3 := HX3.out.k17
    refine (slot_State (rd W wi) _).mono ?_
    rintro e w4 ⟨rfl, rfl⟩
    generalize st10 (rd W wi) = sv at *
    have y : (sv != 0) = true := by simpa using hq
    clear hq
    go_wp2_with fail
    refine (HN.out _ HX3.out).mono ?_
    rintro e w4 ⟨rfl, hk, hb⟩
    have HK4 := hid hk
    have HX4 := hid hb
    have qx4 := hb.k17
    clear hk hb qx3
    go_wp2_with fail
    go_ret
    exact ⟨rfl, clP_of HM2.out HK2.out HO2.out HX2.out (HK3.out.trans HK4.out (fun _ _ h => h)) HX4.out⟩
set_option maxHeartbeats 2000000 in
theorem claim_take (wi gl o n c : Nat) (saw : Int) (tk : Int) (cs : List Value) (W' : List Int) (L' : List Acc) (en : Bool) (left : Value) (sn : Bool) (st er na : Int) (hm : MemAt B w m a lv W L) (hx : Blk w x 73 [i64 tt, i64 sr, i64 g, i64 lm, i64 r, i64 (K : Int), .slice PA pn pc, .slice LA ln lc, .slice (some ⟨gl, o, none⟩) n c, .bool true, i64 saw, i64 0, .bool false, i64 0, i64 0, .bool false, i64 0]) (hn : 1 ≤ n)
    (hg : w.cell? ⟨gl, o, none⟩ = some (i64 tk)) (hp : ∀ w', Calls Try.prog 20 #[.agg #[i64 tt, i64 sr, i64 g, i64 lm, i64 r, i64 (K : Int), .slice PA pn pc, .slice LA ln lc], i64 tk] w' (Ret (i64 (wi : Int)) w'))
    (ht : ∀ w1, MemAt B w1 m a lv W L → Blk w1 x 73 [i64 tt, i64 sr, i64 g, i64 lm, i64 r, i64 (K : Int), .slice PA pn pc, .slice LA ln lc, .slice (some ⟨gl, o, none⟩) n c, .bool true, i64 saw, i64 0, .bool false, i64 0, i64 0, .bool false, i64 0] → w1.cell? ⟨gl, o, none⟩ = some (i64 tk) → Calls Try.prog 42 #[ptr x, ptr m, i64 (wi : Int)] w1 fun e w' => e = .returned (.tuple #[]) ∧ ClP B w1 m a lv x [i64 tt, i64 sr, i64 g, i64 lm, i64 r, i64 (K : Int), .slice PA pn pc, .slice LA ln lc, left, .bool sn, i64 saw, i64 st, .bool en, i64 er, i64 na, .bool false, i64 0] W' L' w') :
    Calls Try.prog 14 #[ptr x, ptr m] w fun e w' => e = .returned (.bool en) ∧ ClP B w m a lv x [i64 tt, i64 sr, i64 g, i64 lm, i64 r, i64 (K : Int), .slice PA pn pc, .slice LA ln lc, left, .bool sn, i64 saw, i64 st, .bool en, i64 er, i64 na, .bool false, i64 0] W' L' w' := by
  have HT := hid ht
  clear ht
  have qx := hx.k17
  have HX := hid hx
  have HM := hid hm
  have HG := hid hg
  have hxm := cm_far hm hx
  have HP := hid hp
  clear hx hm hg hp
  go_enter Try.func14, Try.ntmps14
  go_wp2_with fail
  clear qx
  apply wp_region_text (WI := fun S wx => Keep0 w wx) (by kernel_rfl) (by kernel_rfl)
  case hob =>
    apply Oblig.cons
    case h =>
      intro S w1 hwi hSi hd hcl
      apply StepOk.intro
      intro K hK
      have hn0 : 0 < n := hn
      have qx3 := (hwi.blk HX.out (fun h => h)).k17
      have qg3 := (cell_old hwi (World.block_lt_of_cell? _ _ HG.out) (fun h => h) _).trans HG.out
      go_simp
      apply hK
      · rfl
      · conv => (lhs; whnf)
      · exact hwi
    simp only [put_lit, put_none]
    try dsimp only [List.set_cons_succ, List.set_cons_zero]
    apply Oblig.cons
    case h =>
      intro S w1 hwi hSi hd hcl
      apply StepOk.intro
      intro K hK
      have hn0 : 0 < n := hn
      have qx3 := (hwi.blk HX.out (fun h => h)).k17
      have qg3 := (cell_old hwi (World.block_lt_of_cell? _ _ HG.out) (fun h => h) _).trans HG.out
      go_simp
      apply hK
      · rfl
      · conv => (lhs; whnf)
      · exact hwi
    simp only [put_lit, put_none]
    try dsimp only [List.set_cons_succ, List.set_cons_zero]
    apply Oblig.cons
    case h =>
      intro S w1 hwi hSi hd hcl
      apply StepOk.intro
      intro K hK
      have hn0 : 0 < n := hn
      have qx3 := (hwi.blk HX.out (fun h => h)).k17
      have qg3 := (cell_old hwi (World.block_lt_of_cell? _ _ HG.out) (fun h => h) _).trans HG.out
      go_simp
      apply hK
      · rfl
      · conv => (lhs; whnf)
      · exact hwi
    simp only [put_lit, put_none]
    try dsimp only [List.set_cons_succ, List.set_cons_zero]
    apply Oblig.cons
    case h =>
      intro S w1 hwi hSi hd hcl
      apply StepOk.intro
      intro K hK
      have hn0 : 0 < n := hn
      have qx3 := (hwi.blk HX.out (fun h => h)).k17
      have qg3 := (cell_old hwi (World.block_lt_of_cell? _ _ HG.out) (fun h => h) _).trans HG.out
      go_simp
      apply hK
      · rfl
      · conv => (lhs; whnf)
      · exact hwi
    simp only [put_lit, put_none]
    try dsimp only [List.set_cons_succ, List.set_cons_zero]
    apply Oblig.cons
    case h =>
      intro S w1 hwi hSi hd hcl
      apply StepOk.intro
      intro K hK
      have hn0 : 0 < n := hn
      have qx3 := (hwi.blk HX.out (fun h => h)).k17
      have qg3 := (cell_old hwi (World.block_lt_of_cell? _ _ HG.out) (fun h => h) _).trans HG.out
      go_simp
      apply hK
      · rfl
      · conv => (lhs; whnf)
      · exact hwi
    simp only [put_lit, put_none]
    try dsimp only [List.set_cons_succ, List.set_cons_zero]
    apply Oblig.cons
    case h =>
      intro S w1 hwi hSi hd hcl
      apply StepOk.intro
      intro K hK
      have hn0 : 0 < n := hn
      have qx3 := (hwi.blk HX.out (fun h => h)).k17
      have qg3 := (cell_old hwi (World.block_lt_of_cell? _ _ HG.out) (fun h => h) _).trans HG.out
      go_simp
      apply hK
      · rfl
      · conv => (lhs; whnf)
      · exact hwi
    simp only [put_lit, put_none]
    try dsimp only [List.set_cons_succ, List.set_cons_zero]
    apply Oblig.cons
    case h =>
      intro S w1 hwi hSi hd hcl
      apply StepOk.intro
      intro K hK
      have hn0 : 0 < n := hn
      have qx3 := (hwi.blk HX.out (fun h => h)).k17
      have qg3 := (cell_old hwi (World.block_lt_of_cell? _ _ HG.out) (fun h => h) _).trans HG.out
      go_simp
      apply hK
      · rfl
      · conv => (lhs; whnf)
      · exact hwi
    simp only [put_lit, put_none]
    try dsimp only [List.set_cons_succ, List.set_cons_zero]
    apply Oblig.cons
    case h =>
      intro S w1 hwi hSi hd hcl
      apply StepOk.intro
      intro K hK
      have hn0 : 0 < n := hn
      have qx3 := (hwi.blk HX.out (fun h => h)).k17
      have qg3 := (cell_old hwi (World.block_lt_of_cell? _ _ HG.out) (fun h => h) _).trans HG.out
      go_simp
      apply hK
      · rfl
      · conv => (lhs; whnf)
      · exact hwi
    simp only [put_lit, put_none]
    try dsimp only [List.set_cons_succ, List.set_cons_zero]
    apply Oblig.cons
    case h =>
      intro S w1 hwi hSi hd hcl
      apply StepOk.intro
      intro K hK
      have hn0 : 0 < n := hn
      have qx3 := (hwi.blk HX.out (fun h => h)).k17
      have qg3 := (cell_old hwi (World.block_lt_of_cell? _ _ HG.out) (fun h => h) _).trans HG.out
      go_simp
      apply hK
      · rfl
      · conv => (lhs; whnf)
      · exact hwi
    simp only [put_lit, put_none]
    try dsimp only [List.set_cons_succ, List.set_cons_zero]
    apply Oblig.cons
    case h =>
      intro S w1 hwi hSi hd hcl
      apply StepOk.intro
      intro K hK
      have hn0 : 0 < n := hn
      have qx3 := (hwi.blk HX.out (fun h => h)).k17
      have qg3 := (cell_old hwi (World.block_lt_of_cell? _ _ HG.out) (fun h => h) _).trans HG.out
      go_simp
      apply hK
      · rfl
      · conv => (lhs; whnf)
      · exact hwi
    simp only [put_lit, put_none]
    try dsimp only [List.set_cons_succ, List.set_cons_zero]
    apply Oblig.cons
    case h =>
      intro S w1 hwi hSi hd hcl
      apply StepOk.intro
      intro K hK
      have hn0 : 0 < n := hn
      have qx3 := (hwi.blk HX.out (fun h => h)).k17
      have qg3 := (cell_old hwi (World.block_lt_of_cell? _ _ HG.out) (fun h => h) _).trans HG.out
      go_simp
      refine (HP.out _).mono ?_
      rintro e w2 ⟨rfl, hk⟩
      apply hK
      · rfl
      · conv => (lhs; whnf)
      · exact hwi.trans hk (fun _ _ h => h)
    simp only [put_lit, put_none]
    try dsimp only [List.set_cons_succ, List.set_cons_zero]
    apply Oblig.cons
    case h =>
      intro S w1 hwi hSi hd hcl
      apply StepOk.intro
      intro K hK
      have hn0 : 0 < n := hn
      have qx3 := (hwi.blk HX.out (fun h => h)).k17
      have qg3 := (cell_old hwi (World.block_lt_of_cell? _ _ HG.out) (fun h => h) _).trans HG.out
      go_simp
      apply hK
      · rfl
      · conv => (lhs; whnf)
      · exact hwi
    simp only [put_lit, put_none]
    try dsimp only [List.set_cons_succ, List.set_cons_zero]
    exact Oblig.nil
  case h0 =>
    exact (Keep.refl _ _).drew
  case hend =>
    intro S wx hwi hall
    have HKX := hid hwi
    have hb := hwi.blk HX.out (fun h => h)
    have HX1 := hid hb
    have qx1 := hb.k17
    have HM1 := hid (HM.out.same hwi)
    clear hb hwi hall
    go_wp2_with fail
    have qg1 := (cell_old HKX.out (World.block_lt_of_cell? _ _ HG.out) (fun h => h) _).trans HG.out
    refine (HT.out _ HM1.out HX1.out qg1).mono ?_
    rintro e w2 ⟨rfl, lv2, h1, h2, h3, h4⟩
    have HX2 := hid h2
    have qx2 := h2.k17
    have HM2 := hid h1
    have HK2 := hid h3
    have HO2 := hid h4
    clear h1 h2 h3 h4 qx1
    go_wp2_with fail
    go_ret
    exact ⟨rfl, _, HM2.out, HX2.out, (HKX.out.mono (fun _ h => h.elim)).trans HK2.out (fun _ _ h => h), fun k h => (HO2.out k h).imp id (Nat.le_trans HKX.out.size)⟩
set_option maxHeartbeats 400000 in
theorem claim_Ans {left : Value} {sn en : Bool} {saw st er na : Int} (hx : Blk w x 73 [i64 tt, i64 sr, i64 g, i64 lm, i64 r, i64 (K : Int), .slice PA pn pc, .slice LA ln lc, left, .bool sn, i64 saw, i64 st, .bool en, i64 er, i64 na, .bool false, i64 0]) :
    Calls Try.prog 17 #[ptr x] w (Ret (.agg #[i64 er, i64 na, .bool false, i64 0]) w) := by
  have qx := hx.k17
  clear hx
  go_enter Try.func17, Try.ntmps17
  go_wp2
  exact bodyPost_ret (v := .agg #[i64 er, i64 na, .bool false, i64 0]) (by simp [results, Try.results17, go_sem]) rfl ⟨rfl, (Keep.refl _ _).alloc _⟩
set_option maxHeartbeats 400000 in
theorem claim_Word {left : Value} {sn en : Bool} {saw st er na : Int} (hx : Blk w x 73 [i64 tt, i64 sr, i64 g, i64 lm, i64 r, i64 (K : Int), .slice PA pn pc, .slice LA ln lc, left, .bool sn, i64 saw, i64 st, .bool en, i64 er, i64 na, .bool false, i64 0]) :
    Calls Try.prog 21 #[ptr x] w fun e w' => e = .returned (i64 st) ∧ w = w' := by
  have qx := hx.k17
  clear hx
  go_enter Try.func21, Try.ntmps21
  go_wp2_with fail
  go_ret
  exact ⟨rfl, rfl⟩
end
end Go.Proofs.Ytjloccnbcgkmgaa
