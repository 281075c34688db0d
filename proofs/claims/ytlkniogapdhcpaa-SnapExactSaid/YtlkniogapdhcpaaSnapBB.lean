/- SnapBB: the texts SnapC, SnapCB, SnapK, SnapS, SnapR, in one. -/
import Derived.Test.YtlkniogapdhcpaaSnapAA
import Derived.Deep.QuietTactic
import Derived.BigQuiet
import Derived.Test.YtlkniogapdhcpaaRefMem
import Derived.Test.YtlkniogapdhcpaaRegion
namespace Go.Proofs.Ytlkniogapdhcpaa
open Go.RowKit
set_option linter.unusedVariables false
set_option linter.unusedSimpArgs false
set_option maxRecDepth 100000
theorem step_copy_own7 {P : Program} {ops : Array Oper} {o : Oper} {a : Act} {w : World} {K : Act → World → Prop} {Q : Exit → Act → World → Prop} {E : Prop} (hgd : o.guard = none) (d s : Operand) (dT sT : TypeId)
    (ho : o.op = .call { callee := .builtin .copy, args := #[d, s], argTypes := #[dT, sT] }) (elem : TypeId) (hu : P.underlying dT = some (.slice elem)) (hsz : (P.info? elem).map (·.size) = some 1)
    (g off dLen dCap : Nat) (ad : Addr) (sLen sCap : Nat) (hd : a.eval d = .slice (some ⟨g, off, none⟩) dLen dCap) (hs : a.eval s = .slice (some ad) sLen sCap)
    (cur : List Value) (t : TypeId) (hg : w.heap[g]? = some (.cells cur.toArray t (0, 0))) (cs : List Value) (hn : cs.length = Nat.min sLen dLen)
    (hsrc : ∀ j v, cs[j]? = some v → w.cell? (ad.add j) = some v) (hfit : off + cs.length ≤ cur.length) (h1 : ∀ v ∈ cs, v.oneCell' = true)
    (h : K (a.put o.dst (goInt cs.length)) (w.setRow g (splice cur off cs).toArray)) :
    if Region.wanted o (yielded ops a.tmps) = true then Oper.wp P o a w K Q else E := by
  have hw : Region.wanted o (yielded ops a.tmps) = true := by simp [Region.wanted, hgd]
  rw [if_pos hw]
  have hrun := run_copy_row (P := P) w dT sT o.type elem g off dLen dCap ad sLen sCap cur.toArray t cs hu hsz hg hn hsrc (by simpa using hfit) h1
  unfold Oper.wp
  simp [execOp, ho, resolve, invoke, builtin, hd, hs, hrun, Result.andThen]
  unfold splice at h
  exact h
theorem keep_setRow {w : World} (g : Nat) (cs : Array Value) : Keep (fun k => k = g) w (w.setRow g cs) :=
  ⟨rfl, rfl, rfl, by simp [World.setRow], fun k _ hk => setRow_other w g k cs hk⟩
theorem blk_setRow {w : World} {g : Nat} {t : TypeId} {cur cs : List Value} (h : Blk w g t cur) : Blk (w.setRow g cs.toArray) g t cs := setRow_heap w g _ _ t _ h
/-- what a fresh try leaves, whose blocks are new -/
def TryQ (b s x : Nat) (lf e1 e2 e3 e4 en : Value) (w w' : World) : Prop :=
  ∃ po pg px go oc, Blk w' x 80 [i64 (b : Int), i64 (s : Int), lf, .func (.func 44) #[] #[ptr po, ptr pg], .func (.func 45) #[] #[ptr pg, ptr po, ptr px], e1, e2, e3, e4, en] ∧ Blk w' po 33 [.slice (some ⟨go, 0, none⟩) (4 + 2 * s) oc] ∧ Ints w' go ((wl b s).map Int.ofNat) ∧
      Blk w' px 35 [ptr x] ∧ Blk w' pg 33 [.slice none 0 0] ∧ (w.heap.size ≤ po ∧ w.heap.size ≤ pg ∧ w.heap.size ≤ px ∧ w.heap.size ≤ go) ∧ po ≠ pg
set_option maxHeartbeats 8000000 in
theorem snap_closed_yes (b s x gg c : Nat) (left : Int) (nx tk : Value) (g : List Int) (w : World) (hs : 1 ≤ s ∧ s ≤ 8) (hx : Blk w x 80 [i64 (b : Int), i64 (s : Int), i64 (left), nx, tk, i64 0, i64 (0), .bool false, i64 0, .bool false]) (hl : 1 ≤ left ∧ left ≤ 1000) (hg : g.length = 4 + 2 * s) (hc : 4 + 2 * s ≤ c) (hI : Ints w gg g) (hgx : gg ≠ x) (hcalm : calmB s g = true) :
    Calls Try.prog 46 #[ptr x, .slice (some ⟨gg, 0, none⟩) (4 + 2 * s) c] w fun e w' => e = .returned (.tuple #[]) ∧ Keep (fun k => k = x) w w' ∧ Blk w' x 80 [i64 (b : Int), i64 (s : Int), i64 (left - 1), nx, tk, i64 0, i64 (gsum s g 8), .bool true, i64 0, .bool true] := by
  have HX := hid hx
  have HI := hid hI
  have HG := hid hg
  clear hx hI hg
  have y1 : IntKind.i64.wrap (3 + (s : Int)) = 3 + (s : Int) := IntWalk.i64_in _ (by omega)
  have y2 : IntKind.i64.wrap (3 + (s : Int) + 1) = 4 + (s : Int) := by rw [show 3 + (s : Int) + 1 = 4 + (s : Int) by omega]; exact IntWalk.i64_in _ (by omega)
  have qx := HX.out.k10
  go_enter Try.func46, Try.ntmps46
  go_wp2_with fail
  have HA := hid (show Blk ((w.alloc (.cells #[i64 0, i64 0, i64 0, i64 0, i64 0, i64 0, i64 0, i64 0] 110)).alloc (.cells #[i64 0, i64 0, i64 0, i64 0, i64 0, i64 0, i64 0, i64 0] 110)) w.heap.size 110 (List.replicate 8 (i64 0)) from (Blk.made rfl rfl).alloc _)
  have HB := hid (show Blk ((w.alloc (.cells #[i64 0, i64 0, i64 0, i64 0, i64 0, i64 0, i64 0, i64 0] 110)).alloc (.cells #[i64 0, i64 0, i64 0, i64 0, i64 0, i64 0, i64 0, i64 0] 110)) (w.heap.size + 1) 110 (List.replicate 8 (i64 0)) from Blk.made (by simp) rfl)
  have HK2 := hid (((Keep.refl (fun _ => False) w).alloc (.cells #[i64 0, i64 0, i64 0, i64 0, i64 0, i64 0, i64 0, i64 0] 110)).alloc (.cells #[i64 0, i64 0, i64 0, i64 0, i64 0, i64 0, i64 0, i64 0] 110))
  have hs2 : ((w.alloc (.cells #[i64 0, i64 0, i64 0, i64 0, i64 0, i64 0, i64 0, i64 0] 110)).alloc (.cells #[i64 0, i64 0, i64 0, i64 0, i64 0, i64 0, i64 0, i64 0] 110)).heap.size = w.heap.size + 2 := by simp
  have HX2 := hid (HK2.out.blk HX.out (fun h => h))
  have HI2 := hid (HK2.out.ints HI.out (fun h => h))
  generalize (w.alloc (.cells #[i64 0, i64 0, i64 0, i64 0, i64 0, i64 0, i64 0, i64 0] 110)).alloc (.cells #[i64 0, i64 0, i64 0, i64 0, i64 0, i64 0, i64 0, i64 0] 110) = w2 at *
  obtain ⟨cs1, hcs1⟩ : ∃ cs1, cs1 = (List.range s).map (fun i => i64 (rd g (3 + i))) := ⟨_, rfl⟩
  obtain ⟨cs2, hcs2⟩ : ∃ cs2, cs2 = (List.range s).map (fun i => i64 (rd g (4 + s + i))) := ⟨_, rfl⟩
  have hmin : Nat.min s 8 = s := Nat.min_eq_left hs.2
  have hn1 : cs1.length = Nat.min s 8 := by rw [hmin, hcs1]; simp
  have hn2 : cs2.length = Nat.min s 8 := by rw [hmin, hcs2]; simp
  have ho1 : ∀ v ∈ cs1, v.oneCell' = true := by rw [hcs1]; intro v hv; obtain ⟨i, _, rfl⟩ := List.mem_map.1 hv; rfl
  have ho2 : ∀ v ∈ cs2, v.oneCell' = true := by rw [hcs2]; intro v hv; obtain ⟨i, _, rfl⟩ := List.mem_map.1 hv; rfl
  have hp1 : ∀ w', Ints w' gg g → ∀ j v, cs1[j]? = some v → w'.cell? ((⟨gg, 3, none⟩ : Addr).add j) = some v := by
    intro w' hi j v hj
    rw [hcs1, List.getElem?_map] at hj
    have hjs : j < s := by
      by_cases h : j < s
      · exact h
      · rw [List.getElem?_eq_none (by simp; omega)] at hj; cases hj
    rw [List.getElem?_range hjs] at hj
    cases hj
    rw [addr_addo]
    exact hi.cell (3 + j) (by rw [HG.out]; omega)
  have hp2 : ∀ w', Ints w' gg g → ∀ j v, cs2[j]? = some v → w'.cell? ((⟨gg, 4 + s, none⟩ : Addr).add j) = some v := by
    intro w' hi j v hj
    rw [hcs2, List.getElem?_map] at hj
    have hjs : j < s := by
      by_cases h : j < s
      · exact h
      · rw [List.getElem?_eq_none (by simp; omega)] at hj; cases hj
    rw [List.getElem?_range hjs] at hj
    cases hj
    rw [addr_addo]
    exact hi.cell (4 + s + j) (by rw [HG.out]; omega)
  have hgl := HI2.out.lt
  have hf1 : 0 + cs1.length ≤ (List.replicate 8 (i64 0)).length := by rw [hn1, hmin, List.length_replicate]; omega
  have hf2 : 0 + cs2.length ≤ (List.replicate 8 (i64 0)).length := by rw [hn2, hmin, List.length_replicate]; omega
  have HF1 := hid hf1
  have HF2 := hid hf2
  have HN1 := hid hn1
  have HN2 := hid hn2
  have HO1 := hid ho1
  have HO2 := hid ho2
  have HP1 := hid hp1
  have HP2 := hid hp2
  have HC1 := hid hcs1
  have HC2 := hid hcs2
  have hc3 : ¬ c = 3 := by omega
  have hc4 : ¬ c = 4 + s := by omega
  have q1 : (0 ≤ 3 + (s : Int) ∧ 3 + (s : Int) ≤ (c : Int)) = True := by simp; omega
  have q2 : max (3 + (s : Int)) 0 = 3 + (s : Int) := by omega
  have q3 : (3 + (s : Int)).toNat - 3 = s := by omega
  have q4 : (3 ≤ 3 + (s : Int)) = True := by simp; omega
  clear hf1 hf2 hmin hn1 hn2 ho1 ho2 hp1 hp2 hcs1 hcs2 qx
  go_region_law (refine step_copy_own7 rfl (.tmp 15) (.tmp 18) 33 33 rfl 3 Try.underlying33 (by kernel_rfl) (w.heap.size) 0 8 8 ⟨gg, 3, none⟩ s (c - 3) rfl rfl (List.replicate 8 (i64 0)) 110 (show Blk _ _ _ _ from by repeat (with_reducible first | exact HA.out | apply Blk.drew | apply Blk.drewN)) cs1 HN1.out (HP1.out _ (by repeat (with_reducible first | exact HI2.out | apply Ints.drew | apply Ints.drewN))) HF1.out HO1.out ?_)
  have hk4 : Keep (fun k => k = w.heap.size) w2 (w2.drew.setRow w.heap.size (splice [i64 0, i64 0, i64 0, i64 0, i64 0, i64 0, i64 0, i64 0] 0 cs1).toArray) := (Keep.refl _ w2).drew.trans (keep_setRow _ _) (fun _ _ h => h)
  have HA4 := hid (blk_setRow (cs := splice [i64 0, i64 0, i64 0, i64 0, i64 0, i64 0, i64 0, i64 0] 0 cs1) HA.out.drew)
  have HB4 := hid (hk4.blk HB.out (by show ¬ w.heap.size + 1 = w.heap.size; omega))
  have HX4 := hid (hk4.blk HX2.out (show ¬ x = w.heap.size from by have := HX.out.lt; omega))
  have HI4 := hid (hk4.ints HI2.out (show ¬ gg = w.heap.size from by have := HI.out.lt; omega))
  have HK4 : Hid (Keep0 w (w2.drew.setRow w.heap.size (splice [i64 0, i64 0, i64 0, i64 0, i64 0, i64 0, i64 0, i64 0] 0 cs1).toArray)) := hid (HK2.out.trans (S := fun _ => False) hk4 (fun k hk e => by have e' : k = w.heap.size := e; omega))
  have hs4 : w.heap.size + 2 ≤ (w2.drew.setRow w.heap.size (splice [i64 0, i64 0, i64 0, i64 0, i64 0, i64 0, i64 0, i64 0] 0 cs1).toArray).heap.size := by have := hk4.size; omega
  clear hk4 HA HB HX2 HI2 HK2
  generalize w2.drew.setRow w.heap.size (splice [i64 0, i64 0, i64 0, i64 0, i64 0, i64 0, i64 0, i64 0] 0 cs1).toArray = w4 at *
  clear q1 q2 q3 q4
  have q1 : 4 + (s : Int) ≤ 4 + 2 * (s : Int) := by omega
  have q2 : (4 + (s : Int)).toNat = 4 + s := by omega
  have q3 : 4 + 2 * s - (4 + s) = s := by omega
  have q5 : (0 ≤ 4 + (s : Int)) = True := by simp; omega
  go_wp2_with fail
  go_region_law (refine step_copy_own7 rfl (.tmp 20) (.tmp 24) 33 33 rfl 3 Try.underlying33 (by kernel_rfl) (w.heap.size + 1) 0 8 8 ⟨gg, 4 + s, none⟩ s (c - (4 + s)) rfl rfl (List.replicate 8 (i64 0)) 110 (show Blk _ _ _ _ from by repeat (with_reducible first | exact HB4.out | apply Blk.drew | apply Blk.drewN)) cs2 HN2.out (HP2.out _ (by repeat (with_reducible first | exact HI4.out | apply Ints.drew | apply Ints.drewN))) HF2.out HO2.out ?_)
  have hk5 : Keep (fun k => k = w.heap.size + 1) w4 (w4.drew.setRow (w.heap.size + 1) (splice [i64 0, i64 0, i64 0, i64 0, i64 0, i64 0, i64 0, i64 0] 0 cs2).toArray) := (Keep.refl _ w4).drew.trans (keep_setRow _ _) (fun _ _ h => h)
  have e1 : splice [i64 0, i64 0, i64 0, i64 0, i64 0, i64 0, i64 0, i64 0] 0 cs1 = [i64 (vw s g 3 0), i64 (vw s g 3 1), i64 (vw s g 3 2), i64 (vw s g 3 3), i64 (vw s g 3 4), i64 (vw s g 3 5), i64 (vw s g 3 6), i64 (vw s g 3 7)] := by rw [HC1.out]; exact view8 (fun i => rd g (3 + i)) s hs.2
  have e2 : splice [i64 0, i64 0, i64 0, i64 0, i64 0, i64 0, i64 0, i64 0] 0 cs2 = [i64 (vw s g (4 + s) 0), i64 (vw s g (4 + s) 1), i64 (vw s g (4 + s) 2), i64 (vw s g (4 + s) 3), i64 (vw s g (4 + s) 4), i64 (vw s g (4 + s) 5), i64 (vw s g (4 + s) 6), i64 (vw s g (4 + s) 7)] := by rw [HC2.out]; exact view8 (fun i => rd g (4 + s + i)) s hs.2
  have hb5 := blk_setRow (cs := splice [i64 0, i64 0, i64 0, i64 0, i64 0, i64 0, i64 0, i64 0] 0 cs2) HB4.out.drew
  have ha5 := hk5.blk HA4.out (by show ¬ w.heap.size = w.heap.size + 1; omega)
  have hx5 := hk5.blk HX4.out (show ¬ x = w.heap.size + 1 from by have := HX.out.lt; omega)
  have hi5 := hk5.ints HI4.out (show ¬ gg = w.heap.size + 1 from by have := HI.out.lt; omega)
  have hk05 : Keep0 w (w4.drew.setRow (w.heap.size + 1) (splice [i64 0, i64 0, i64 0, i64 0, i64 0, i64 0, i64 0, i64 0] 0 cs2).toArray) := HK4.out.trans (S := fun _ => False) hk5 (fun k hk e => by have e' : k = w.heap.size + 1 := e; omega)
  rw [e1] at ha5
  generalize w4.drew.setRow (w.heap.size + 1) (splice [i64 0, i64 0, i64 0, i64 0, i64 0, i64 0, i64 0, i64 0] 0 cs2).toArray = w5 at *
  rw [e2] at hb5
  have HA5 := hid ha5
  have HB5 := hid hb5
  have HX5 := hid hx5
  have HI5 := hid hi5
  have HK5 := hid hk05
  have qx5 := hx5.k10
  have y3 : IntKind.i64.wrap (left - 1) = left - 1 := IntWalk.i64_in _ (by omega)
  clear hk5 e1 e2 ha5 hb5 hx5 hi5 hk05 HA4 HB4 HX4 HI4 HK4 q1 q2 q3 q5 hs4 HC1 HC2 HP1 HP2 HO1 HO2 HN1 HN2 HF1 HF2
  go_wp2_with fail
  have h6 := HX5.out.set 2 (i64 (left - 1))
  simp only [List.set_cons_succ, List.set_cons_zero] at h6
  have HX6 := hid h6
  have hxw := HX.out.lt
  have HA6 := hid (HA5.out.other (a := ⟨x, 2, none⟩) (i64 (left - 1)) (by show x ≠ w.heap.size; omega))
  have HB6 := hid (HB5.out.other (a := ⟨x, 2, none⟩) (i64 (left - 1)) (by show x ≠ w.heap.size + 1; omega))
  have HI6 := hid (((Keep.refl (fun k => k = x) w5).set ⟨x, 2, none⟩ (i64 (left - 1)) (fun _ => rfl)).ints HI5.out hgx)
  have HK6 : Hid (Keep (fun k => k = x) w (w5.setCell ⟨x, 2, none⟩ (i64 (left - 1)))) := hid ((HK5.out.mono (fun _ h => h.elim)).set ⟨x, 2, none⟩ (i64 (left - 1)) (fun _ => rfl))
  clear h6 HX5 HA5 HB5 HI5 HK5 qx5
  generalize w5.setCell ⟨x, 2, none⟩ (i64 (left - 1)) = w6 at *
  have c0 := HI6.out.cell 0 (by rw [HG.out]; omega)
  have c1 := HI6.out.cell 1 (by rw [HG.out]; omega)
  have c2 := HI6.out.cell 2 (by rw [HG.out]; omega)
  have cm := HI6.out.cell (3 + s) (by rw [HG.out]; omega)
  have cz := HI6.out.lt
  have HV := hid (show viewB s g = (vw s g 3 0 == vw s g (4 + s) 0 && (vw s g 3 1 == vw s g (4 + s) 1 && (vw s g 3 2 == vw s g (4 + s) 2 && (vw s g 3 3 == vw s g (4 + s) 3 && (vw s g 3 4 == vw s g (4 + s) 4 && (vw s g 3 5 == vw s g (4 + s) 5 && (vw s g 3 6 == vw s g (4 + s) 6 && vw s g 3 7 == vw s g (4 + s) 7))))))) from rfl)
  have HCA := hid (show calmB s g = (rd g 0 == rd g 1 && (rd g 0 == rd g (3 + s) && viewB s g)) from rfl)
  have HS0 := hid (show gsum s g 0 = rd g 2 from rfl)
  have HSS := hid (show ∀ i, gsum s g (i + 1) = wrap64 (gsum s g i + pVal (vw s g 3 i)) from fun _ => rfl)
  generalize vw s g 3 = AI at *
  generalize vw s g (4 + s) = DI at *
  have qa := HA6.out.k8
  have qb := HB6.out.k8
  generalize rd g 0 = r0 at *
  generalize rd g 1 = r1 at *
  generalize rd g 2 = r2 at *
  generalize rd g (3 + s) = rm at *
  have q6 : (0 ≤ 3 + (s : Int)) = True := by simp; omega
  have q7 : (3 + (s : Int)).toNat = 3 + s := by omega
  have q8 : 3 + (s : Int) < 4 + 2 * (s : Int) := by omega

  have hca := hcalm
  rw [HCA.out] at hca
  simp only [Bool.and_eq_true] at hca
  obtain ⟨h1, h2, h3⟩ := hca
  go_quiet (fail)
  obtain ⟨w7, hw7⟩ : ∃ w7, w7 = w6.drewN nq := ⟨_, rfl⟩
  rw [← hw7, ← HV.out, h3]
  have HX7 := hid (show Blk w7 x 80 [i64 (b : Int), i64 (s : Int), i64 (left - 1), nx, tk, i64 0, i64 (0), .bool false, i64 0, .bool false] from by rw [hw7]; exact HX6.out.drewN nq)
  have HA7 := hid (show Blk w7 w.heap.size 110 [i64 (AI 0), i64 (AI 1), i64 (AI 2), i64 (AI 3), i64 (AI 4), i64 (AI 5), i64 (AI 6), i64 (AI 7)] from by rw [hw7]; exact HA6.out.drewN nq)
  have HK7 : Hid (Keep (fun k => k = x) w w7) := hid (by rw [hw7]; exact HK6.out.drewN nq)
  have c7 : w7.cell? ⟨gg, 2, none⟩ = some (i64 r2) := by rw [hw7]; exact c2
  have cz7 : gg < w7.heap.size := by rw [hw7]; exact cz
  clear HX6 HA6 HB6 HI6 HK6 hw7 qa qb c0 c1 c2 cm cz h1 h2 h3 HI HV HCA hs2 hgl hc3 hc4 q6 q7 q8 hcalm HG
  have qa := HA7.out.k8
  go_wp2_with fail
  clear c7
  go_loopw [7, 62] (fun v u wr => ∃ i : Nat, i ≤ 8 ∧ u = .int .i64 i ∧ v = .int .i64 (gsum s g i) ∧ w7 = wr) (fun _ u _ => 8 - (intOf u).toNat)
  case atStart => exact ⟨0, by omega, rfl, by rw [HS0.out], rfl⟩
  case round =>
    obtain ⟨i, hi, rfl, rfl, rfl⟩ := hrel
    by_cases hlt : i < 8
    · have yix := fun w => view_ix AI i hlt w
      have hmv := HSS.out i
      have HSN := hid hmv
      generalize AI i = ai at *
      have y8 : IntKind.i64.wrap (gsum s g i + pVal ai) = gsum s g (i + 1) := by rw [hmv, IntKind.wrap_i64, wrap64]
      clear hmv
      generalize hS1 : gsum s g (i + 1) = S1 at *
      generalize gsum s g i = S0 at *
      have HS1 := hid hS1
      clear hS1 qa
      go_wp2_with fail
      refine (pack_Value ai _).mono ?_
      rintro e w8 ⟨rfl, rfl⟩
      go_wp2_with fail
      go_roundw
      case rel => exact ⟨i + 1, by omega, by go_num, by rw [HS1.out], by first | rfl | trivial⟩
      case measure => first | (simp [intOf]; done) | (simp [intOf]; omega)
    · obtain rfl : i = 8 := by omega
      have hw8 := ((((HX7.out.set 5 (i64 0)).set 6 (i64 (gsum s g 8))).set 7 (.bool true)).set 8 (i64 0)).set 9 (.bool true)
      simp only [List.set_cons_succ, List.set_cons_zero] at hw8
      have HW8 := hid hw8
      have qx7 := HX7.out.k10
      clear hw8 qa
      go_wp2_with fail
      go_end0
      exact ⟨rfl, by repeat (with_reducible first | exact HK7.out | refine Keep.set ?_ _ _ (fun _ => rfl)), HW8.out⟩
end Go.Proofs.Ytlkniogapdhcpaa


namespace Go.Proofs.Ytlkniogapdhcpaa
open Go.RowKit
set_option linter.unusedVariables false
set_option linter.unusedSimpArgs false
set_option maxRecDepth 100000
def ClNo (b s x gg : Nat) (left : Int) (nx tk : Value) (g : List Int) (w w' : World) : Prop :=
  (left - 1 = 0 → Blk w' x 80 [i64 (b : Int), i64 (s : Int), i64 (left - 1), nx, tk, i64 0, i64 (rd g 2), .bool false, i64 0, .bool true]) ∧ (¬ left - 1 = 0 → TryQ b s x (i64 (left - 1)) (i64 0) (i64 0) (.bool false) (i64 0) (.bool false) w w')
set_option maxHeartbeats 8000000 in
theorem snap_closed_no (b s x gg c : Nat) (left : Int) (nx tk : Value) (g : List Int) (w : World) (hs : 1 ≤ s ∧ s ≤ 8) (hx : Blk w x 80 [i64 (b : Int), i64 (s : Int), i64 (left), nx, tk, i64 0, i64 (0), .bool false, i64 0, .bool false]) (hl : 1 ≤ left ∧ left ≤ 1000) (hg : g.length = 4 + 2 * s) (hc : 4 + 2 * s ≤ c) (hI : Ints w gg g) (hgx : gg ≠ x) (hb : b ≤ 1000000) (hcalm : calmB s g = false) :
    Calls Try.prog 46 #[ptr x, .slice (some ⟨gg, 0, none⟩) (4 + 2 * s) c] w fun e w' => e = .returned (.tuple #[]) ∧ Keep (fun k => k = x) w w' ∧
      ClNo b s x gg left nx tk g w w' := by
  have HX := hid hx
  have HI := hid hI
  have HG := hid hg
  clear hx hI hg
  have y1 : IntKind.i64.wrap (3 + (s : Int)) = 3 + (s : Int) := IntWalk.i64_in _ (by omega)
  have y2 : IntKind.i64.wrap (3 + (s : Int) + 1) = 4 + (s : Int) := by rw [show 3 + (s : Int) + 1 = 4 + (s : Int) by omega]; exact IntWalk.i64_in _ (by omega)
  have qx := HX.out.k10
  go_enter Try.func46, Try.ntmps46
  go_wp2_with fail
  have HA := hid (show Blk ((w.alloc (.cells #[i64 0, i64 0, i64 0, i64 0, i64 0, i64 0, i64 0, i64 0] 110)).alloc (.cells #[i64 0, i64 0, i64 0, i64 0, i64 0, i64 0, i64 0, i64 0] 110)) w.heap.size 110 (List.replicate 8 (i64 0)) from (Blk.made rfl rfl).alloc _)
  have HB := hid (show Blk ((w.alloc (.cells #[i64 0, i64 0, i64 0, i64 0, i64 0, i64 0, i64 0, i64 0] 110)).alloc (.cells #[i64 0, i64 0, i64 0, i64 0, i64 0, i64 0, i64 0, i64 0] 110)) (w.heap.size + 1) 110 (List.replicate 8 (i64 0)) from Blk.made (by simp) rfl)
  have HK2 := hid (((Keep.refl (fun _ => False) w).alloc (.cells #[i64 0, i64 0, i64 0, i64 0, i64 0, i64 0, i64 0, i64 0] 110)).alloc (.cells #[i64 0, i64 0, i64 0, i64 0, i64 0, i64 0, i64 0, i64 0] 110))
  have hs2 : ((w.alloc (.cells #[i64 0, i64 0, i64 0, i64 0, i64 0, i64 0, i64 0, i64 0] 110)).alloc (.cells #[i64 0, i64 0, i64 0, i64 0, i64 0, i64 0, i64 0, i64 0] 110)).heap.size = w.heap.size + 2 := by simp
  have HX2 := hid (HK2.out.blk HX.out (fun h => h))
  have HI2 := hid (HK2.out.ints HI.out (fun h => h))
  generalize (w.alloc (.cells #[i64 0, i64 0, i64 0, i64 0, i64 0, i64 0, i64 0, i64 0] 110)).alloc (.cells #[i64 0, i64 0, i64 0, i64 0, i64 0, i64 0, i64 0, i64 0] 110) = w2 at *
  obtain ⟨cs1, hcs1⟩ : ∃ cs1, cs1 = (List.range s).map (fun i => i64 (rd g (3 + i))) := ⟨_, rfl⟩
  obtain ⟨cs2, hcs2⟩ : ∃ cs2, cs2 = (List.range s).map (fun i => i64 (rd g (4 + s + i))) := ⟨_, rfl⟩
  have hmin : Nat.min s 8 = s := Nat.min_eq_left hs.2
  have hn1 : cs1.length = Nat.min s 8 := by rw [hmin, hcs1]; simp
  have hn2 : cs2.length = Nat.min s 8 := by rw [hmin, hcs2]; simp
  have ho1 : ∀ v ∈ cs1, v.oneCell' = true := by rw [hcs1]; intro v hv; obtain ⟨i, _, rfl⟩ := List.mem_map.1 hv; rfl
  have ho2 : ∀ v ∈ cs2, v.oneCell' = true := by rw [hcs2]; intro v hv; obtain ⟨i, _, rfl⟩ := List.mem_map.1 hv; rfl
  have hp1 : ∀ w', Ints w' gg g → ∀ j v, cs1[j]? = some v → w'.cell? ((⟨gg, 3, none⟩ : Addr).add j) = some v := by
    intro w' hi j v hj
    rw [hcs1, List.getElem?_map] at hj
    have hjs : j < s := by
      by_cases h : j < s
      · exact h
      · rw [List.getElem?_eq_none (by simp; omega)] at hj; cases hj
    rw [List.getElem?_range hjs] at hj
    cases hj
    rw [addr_addo]
    exact hi.cell (3 + j) (by rw [HG.out]; omega)
  have hp2 : ∀ w', Ints w' gg g → ∀ j v, cs2[j]? = some v → w'.cell? ((⟨gg, 4 + s, none⟩ : Addr).add j) = some v := by
    intro w' hi j v hj
    rw [hcs2, List.getElem?_map] at hj
    have hjs : j < s := by
      by_cases h : j < s
      · exact h
      · rw [List.getElem?_eq_none (by simp; omega)] at hj; cases hj
    rw [List.getElem?_range hjs] at hj
    cases hj
    rw [addr_addo]
    exact hi.cell (4 + s + j) (by rw [HG.out]; omega)
  have hgl := HI2.out.lt
  have hf1 : 0 + cs1.length ≤ (List.replicate 8 (i64 0)).length := by rw [hn1, hmin, List.length_replicate]; omega
  have hf2 : 0 + cs2.length ≤ (List.replicate 8 (i64 0)).length := by rw [hn2, hmin, List.length_replicate]; omega
  have HF1 := hid hf1
  have HF2 := hid hf2
  have HN1 := hid hn1
  have HN2 := hid hn2
  have HO1 := hid ho1
  have HO2 := hid ho2
  have HP1 := hid hp1
  have HP2 := hid hp2
  have HC1 := hid hcs1
  have HC2 := hid hcs2
  have hc3 : ¬ c = 3 := by omega
  have hc4 : ¬ c = 4 + s := by omega
  have q1 : (0 ≤ 3 + (s : Int) ∧ 3 + (s : Int) ≤ (c : Int)) = True := by simp; omega
  have q2 : max (3 + (s : Int)) 0 = 3 + (s : Int) := by omega
  have q3 : (3 + (s : Int)).toNat - 3 = s := by omega
  have q4 : (3 ≤ 3 + (s : Int)) = True := by simp; omega
  clear hf1 hf2 hmin hn1 hn2 ho1 ho2 hp1 hp2 hcs1 hcs2 qx
  go_region_law (refine step_copy_own7 rfl (.tmp 15) (.tmp 18) 33 33 rfl 3 Try.underlying33 (by kernel_rfl) (w.heap.size) 0 8 8 ⟨gg, 3, none⟩ s (c - 3) rfl rfl (List.replicate 8 (i64 0)) 110 (show Blk _ _ _ _ from by repeat (with_reducible first | exact HA.out | apply Blk.drew | apply Blk.drewN)) cs1 HN1.out (HP1.out _ (by repeat (with_reducible first | exact HI2.out | apply Ints.drew | apply Ints.drewN))) HF1.out HO1.out ?_)
  have hk4 : Keep (fun k => k = w.heap.size) w2 (w2.drew.setRow w.heap.size (splice [i64 0, i64 0, i64 0, i64 0, i64 0, i64 0, i64 0, i64 0] 0 cs1).toArray) := (Keep.refl _ w2).drew.trans (keep_setRow _ _) (fun _ _ h => h)
  have HA4 := hid (blk_setRow (cs := splice [i64 0, i64 0, i64 0, i64 0, i64 0, i64 0, i64 0, i64 0] 0 cs1) HA.out.drew)
  have HB4 := hid (hk4.blk HB.out (by show ¬ w.heap.size + 1 = w.heap.size; omega))
  have HX4 := hid (hk4.blk HX2.out (show ¬ x = w.heap.size from by have := HX.out.lt; omega))
  have HI4 := hid (hk4.ints HI2.out (show ¬ gg = w.heap.size from by have := HI.out.lt; omega))
  have HK4 : Hid (Keep0 w (w2.drew.setRow w.heap.size (splice [i64 0, i64 0, i64 0, i64 0, i64 0, i64 0, i64 0, i64 0] 0 cs1).toArray)) := hid (HK2.out.trans (S := fun _ => False) hk4 (fun k hk e => by have e' : k = w.heap.size := e; omega))
  have hs4 : w.heap.size + 2 ≤ (w2.drew.setRow w.heap.size (splice [i64 0, i64 0, i64 0, i64 0, i64 0, i64 0, i64 0, i64 0] 0 cs1).toArray).heap.size := by have := hk4.size; omega
  clear hk4 HA HB HX2 HI2 HK2
  generalize w2.drew.setRow w.heap.size (splice [i64 0, i64 0, i64 0, i64 0, i64 0, i64 0, i64 0, i64 0] 0 cs1).toArray = w4 at *
  clear q1 q2 q3 q4
  have q1 : 4 + (s : Int) ≤ 4 + 2 * (s : Int) := by omega
  have q2 : (4 + (s : Int)).toNat = 4 + s := by omega
  have q3 : 4 + 2 * s - (4 + s) = s := by omega
  have q5 : (0 ≤ 4 + (s : Int)) = True := by simp; omega
  go_wp2_with fail
  go_region_law (refine step_copy_own7 rfl (.tmp 20) (.tmp 24) 33 33 rfl 3 Try.underlying33 (by kernel_rfl) (w.heap.size + 1) 0 8 8 ⟨gg, 4 + s, none⟩ s (c - (4 + s)) rfl rfl (List.replicate 8 (i64 0)) 110 (show Blk _ _ _ _ from by repeat (with_reducible first | exact HB4.out | apply Blk.drew | apply Blk.drewN)) cs2 HN2.out (HP2.out _ (by repeat (with_reducible first | exact HI4.out | apply Ints.drew | apply Ints.drewN))) HF2.out HO2.out ?_)
  have hk5 : Keep (fun k => k = w.heap.size + 1) w4 (w4.drew.setRow (w.heap.size + 1) (splice [i64 0, i64 0, i64 0, i64 0, i64 0, i64 0, i64 0, i64 0] 0 cs2).toArray) := (Keep.refl _ w4).drew.trans (keep_setRow _ _) (fun _ _ h => h)
  have e1 : splice [i64 0, i64 0, i64 0, i64 0, i64 0, i64 0, i64 0, i64 0] 0 cs1 = [i64 (vw s g 3 0), i64 (vw s g 3 1), i64 (vw s g 3 2), i64 (vw s g 3 3), i64 (vw s g 3 4), i64 (vw s g 3 5), i64 (vw s g 3 6), i64 (vw s g 3 7)] := by rw [HC1.out]; exact view8 (fun i => rd g (3 + i)) s hs.2
  have e2 : splice [i64 0, i64 0, i64 0, i64 0, i64 0, i64 0, i64 0, i64 0] 0 cs2 = [i64 (vw s g (4 + s) 0), i64 (vw s g (4 + s) 1), i64 (vw s g (4 + s) 2), i64 (vw s g (4 + s) 3), i64 (vw s g (4 + s) 4), i64 (vw s g (4 + s) 5), i64 (vw s g (4 + s) 6), i64 (vw s g (4 + s) 7)] := by rw [HC2.out]; exact view8 (fun i => rd g (4 + s + i)) s hs.2
  have hb5 := blk_setRow (cs := splice [i64 0, i64 0, i64 0, i64 0, i64 0, i64 0, i64 0, i64 0] 0 cs2) HB4.out.drew
  have ha5 := hk5.blk HA4.out (by show ¬ w.heap.size = w.heap.size + 1; omega)
  have hx5 := hk5.blk HX4.out (show ¬ x = w.heap.size + 1 from by have := HX.out.lt; omega)
  have hi5 := hk5.ints HI4.out (show ¬ gg = w.heap.size + 1 from by have := HI.out.lt; omega)
  have hk05 : Keep0 w (w4.drew.setRow (w.heap.size + 1) (splice [i64 0, i64 0, i64 0, i64 0, i64 0, i64 0, i64 0, i64 0] 0 cs2).toArray) := HK4.out.trans (S := fun _ => False) hk5 (fun k hk e => by have e' : k = w.heap.size + 1 := e; omega)
  rw [e1] at ha5
  generalize w4.drew.setRow (w.heap.size + 1) (splice [i64 0, i64 0, i64 0, i64 0, i64 0, i64 0, i64 0, i64 0] 0 cs2).toArray = w5 at *
  rw [e2] at hb5
  have HA5 := hid ha5
  have HB5 := hid hb5
  have HX5 := hid hx5
  have HI5 := hid hi5
  have HK5 := hid hk05
  have qx5 := hx5.k10
  have y3 : IntKind.i64.wrap (left - 1) = left - 1 := IntWalk.i64_in _ (by omega)
  clear hk5 e1 e2 ha5 hb5 hx5 hi5 hk05 HA4 HB4 HX4 HI4 HK4 q1 q2 q3 q5 hs4 HC1 HC2 HP1 HP2 HO1 HO2 HN1 HN2 HF1 HF2
  go_wp2_with fail
  have h6 := HX5.out.set 2 (i64 (left - 1))
  simp only [List.set_cons_succ, List.set_cons_zero] at h6
  have HX6 := hid h6
  have hxw := HX.out.lt
  have HA6 := hid (HA5.out.other (a := ⟨x, 2, none⟩) (i64 (left - 1)) (by show x ≠ w.heap.size; omega))
  have HB6 := hid (HB5.out.other (a := ⟨x, 2, none⟩) (i64 (left - 1)) (by show x ≠ w.heap.size + 1; omega))
  have HI6 := hid (((Keep.refl (fun k => k = x) w5).set ⟨x, 2, none⟩ (i64 (left - 1)) (fun _ => rfl)).ints HI5.out hgx)
  have HK6 : Hid (Keep (fun k => k = x) w (w5.setCell ⟨x, 2, none⟩ (i64 (left - 1)))) := hid ((HK5.out.mono (fun _ h => h.elim)).set ⟨x, 2, none⟩ (i64 (left - 1)) (fun _ => rfl))
  clear h6 HX5 HA5 HB5 HI5 HK5 qx5
  generalize w5.setCell ⟨x, 2, none⟩ (i64 (left - 1)) = w6 at *
  have c0 := HI6.out.cell 0 (by rw [HG.out]; omega)
  have c1 := HI6.out.cell 1 (by rw [HG.out]; omega)
  have c2 := HI6.out.cell 2 (by rw [HG.out]; omega)
  have cm := HI6.out.cell (3 + s) (by rw [HG.out]; omega)
  have cz := HI6.out.lt
  have HV := hid (show viewB s g = (vw s g 3 0 == vw s g (4 + s) 0 && (vw s g 3 1 == vw s g (4 + s) 1 && (vw s g 3 2 == vw s g (4 + s) 2 && (vw s g 3 3 == vw s g (4 + s) 3 && (vw s g 3 4 == vw s g (4 + s) 4 && (vw s g 3 5 == vw s g (4 + s) 5 && (vw s g 3 6 == vw s g (4 + s) 6 && vw s g 3 7 == vw s g (4 + s) 7))))))) from rfl)
  have HCA := hid (show calmB s g = (rd g 0 == rd g 1 && (rd g 0 == rd g (3 + s) && viewB s g)) from rfl)
  have HS0 := hid (show gsum s g 0 = rd g 2 from rfl)
  have HSS := hid (show ∀ i, gsum s g (i + 1) = wrap64 (gsum s g i + pVal (vw s g 3 i)) from fun _ => rfl)
  generalize vw s g 3 = AI at *
  generalize vw s g (4 + s) = DI at *
  have qa := HA6.out.k8
  have qb := HB6.out.k8
  generalize rd g 0 = r0 at *
  generalize rd g 1 = r1 at *
  generalize hr2 : rd g 2 = r2 at *
  have HR2 := hid hr2
  clear hr2
  generalize rd g (3 + s) = rm at *
  have q6 : (0 ≤ 3 + (s : Int)) = True := by simp; omega
  have q7 : (3 + (s : Int)).toNat = 3 + s := by omega
  have q8 : 3 + (s : Int) < 4 + 2 * (s : Int) := by omega

  have hca := hcalm
  rw [HCA.out] at hca
  clear HS0 HSS
  cases h1 : (r0 == r1) with
  | false =>
    clear hca
    go_quiet (fail)
    obtain ⟨w7, hw7⟩ : ∃ w7, w7 = w6.drewN nq := ⟨_, rfl⟩
    rw [← hw7]
    have HX7 := hid (show Blk w7 x 80 [i64 (b : Int), i64 (s : Int), i64 (left - 1), nx, tk, i64 0, i64 (0), .bool false, i64 0, .bool false] from by rw [hw7]; exact HX6.out.drewN nq)
    have HK7 : Hid (Keep (fun k => k = x) w w7) := hid (by rw [hw7]; exact HK6.out.drewN nq)
    have c7 : w7.cell? ⟨gg, 2, none⟩ = some (i64 r2) := by rw [hw7]; exact c2
    have cz7 : gg < w7.heap.size := by rw [hw7]; exact cz
    clear HX6 HA6 HB6 HI6 HK6 hw7 qa qb c0 c1 c2 cm cz HI HV HCA hs2 hgl hc3 hc4 q6 q7 q8 hcalm HG hc hgx hxw y1 y2 hl
    have qx7 := HX7.out.k10
    by_cases hz : left - 1 = 0
    · have g1 : (left - 1 == 0) = true := by simpa using hz
      have HZ := hid hz
      have hw8 := ((((HX7.out.set 5 (i64 0)).set 6 (i64 r2)).set 7 (.bool false)).set 8 (i64 0)).set 9 (.bool true)
      simp only [List.set_cons_succ, List.set_cons_zero] at hw8
      have HW8 := hid hw8
      clear hw8 hz
      go_wp2_with fail
      go_end0
      unfold ClNo
      refine ⟨rfl, by repeat (with_reducible first | exact HK7.out | refine Keep.set ?_ _ _ (fun _ => rfl)), ?_⟩
      rw [HR2.out]
      exact ⟨fun _ => HW8.out, fun h => absurd HZ.out h⟩
    · have g1 : (left - 1 == 0) = false := by simpa using hz
      have HZ := hid hz
      have HT := hid (snap_try b s x (i64 (left - 1)) nx tk (i64 0) (i64 0) (.bool false) (i64 0) (.bool false) w7 hs.2 hb HX7.out)
      clear hz
      go_wp2_with fail
      refine HT.out.mono ?_
      rintro e w8 ⟨rfl, po, pg, px, go, oc, t1, t2, t3, t4, t5, t6, t7, t8⟩
      have HKE := hid (HK7.out.trans t8 (fun _ _ h => h))
      have hz7 := HK7.out.size
      have HTQ := hid (show TryQ b s x (i64 (left - 1)) (i64 0) (i64 0) (.bool false) (i64 0) (.bool false) w w8 from ⟨po, pg, px, go, oc, t1, t2, t3, t4, t5, ⟨Nat.le_trans hz7 t6.1, Nat.le_trans hz7 t6.2.1, Nat.le_trans hz7 t6.2.2.1, Nat.le_trans hz7 t6.2.2.2⟩, t7⟩)
      clear t1 t2 t3 t4 t5 t6 t7 t8
      go_wp2_with fail
      go_end0
      refine ⟨rfl, HKE.out, ?_⟩
      exact ⟨fun h => absurd h HZ.out, fun _ => HTQ.out⟩
  | true =>
    rw [h1, Bool.true_and] at hca
    cases h2 : (r0 == rm) with
    | false =>
      clear hca
      go_quiet (fail)
      obtain ⟨w7, hw7⟩ : ∃ w7, w7 = w6.drewN nq := ⟨_, rfl⟩
      rw [← hw7]
      have HX7 := hid (show Blk w7 x 80 [i64 (b : Int), i64 (s : Int), i64 (left - 1), nx, tk, i64 0, i64 (0), .bool false, i64 0, .bool false] from by rw [hw7]; exact HX6.out.drewN nq)
      have HK7 : Hid (Keep (fun k => k = x) w w7) := hid (by rw [hw7]; exact HK6.out.drewN nq)
      have c7 : w7.cell? ⟨gg, 2, none⟩ = some (i64 r2) := by rw [hw7]; exact c2
      have cz7 : gg < w7.heap.size := by rw [hw7]; exact cz
      clear HX6 HA6 HB6 HI6 HK6 hw7 qa qb c0 c1 c2 cm cz HI HV HCA hs2 hgl hc3 hc4 q6 q7 q8 hcalm HG hc hgx hxw y1 y2 hl
      have qx7 := HX7.out.k10
      by_cases hz : left - 1 = 0
      · have g1 : (left - 1 == 0) = true := by simpa using hz
        have HZ := hid hz
        have hw8 := ((((HX7.out.set 5 (i64 0)).set 6 (i64 r2)).set 7 (.bool false)).set 8 (i64 0)).set 9 (.bool true)
        simp only [List.set_cons_succ, List.set_cons_zero] at hw8
        have HW8 := hid hw8
        clear hw8 hz
        go_wp2_with fail
        go_end0
        unfold ClNo
        refine ⟨rfl, by repeat (with_reducible first | exact HK7.out | refine Keep.set ?_ _ _ (fun _ => rfl)), ?_⟩
        rw [HR2.out]
        exact ⟨fun _ => HW8.out, fun h => absurd HZ.out h⟩
      · have g1 : (left - 1 == 0) = false := by simpa using hz
        have HZ := hid hz
        have HT := hid (snap_try b s x (i64 (left - 1)) nx tk (i64 0) (i64 0) (.bool false) (i64 0) (.bool false) w7 hs.2 hb HX7.out)
        clear hz
        go_wp2_with fail
        refine HT.out.mono ?_
        rintro e w8 ⟨rfl, po, pg, px, go, oc, t1, t2, t3, t4, t5, t6, t7, t8⟩
        have HKE := hid (HK7.out.trans t8 (fun _ _ h => h))
        have hz7 := HK7.out.size
        have HTQ := hid (show TryQ b s x (i64 (left - 1)) (i64 0) (i64 0) (.bool false) (i64 0) (.bool false) w w8 from ⟨po, pg, px, go, oc, t1, t2, t3, t4, t5, ⟨Nat.le_trans hz7 t6.1, Nat.le_trans hz7 t6.2.1, Nat.le_trans hz7 t6.2.2.1, Nat.le_trans hz7 t6.2.2.2⟩, t7⟩)
        clear t1 t2 t3 t4 t5 t6 t7 t8
        go_wp2_with fail
        go_end0
        refine ⟨rfl, HKE.out, ?_⟩
        exact ⟨fun h => absurd h HZ.out, fun _ => HTQ.out⟩
    | true =>
      rw [h2, Bool.true_and] at hca
      go_quiet (fail)
      rw [← HV.out, hca]
      obtain ⟨w7, hw7⟩ : ∃ w7, w7 = w6.drewN nq := ⟨_, rfl⟩
      rw [← hw7]
      have HX7 := hid (show Blk w7 x 80 [i64 (b : Int), i64 (s : Int), i64 (left - 1), nx, tk, i64 0, i64 (0), .bool false, i64 0, .bool false] from by rw [hw7]; exact HX6.out.drewN nq)
      have HK7 : Hid (Keep (fun k => k = x) w w7) := hid (by rw [hw7]; exact HK6.out.drewN nq)
      have c7 : w7.cell? ⟨gg, 2, none⟩ = some (i64 r2) := by rw [hw7]; exact c2
      have cz7 : gg < w7.heap.size := by rw [hw7]; exact cz
      clear HX6 HA6 HB6 HI6 HK6 hw7 qa qb c0 c1 c2 cm cz HI HV HCA hs2 hgl hc3 hc4 q6 q7 q8 hcalm HG hc hgx hxw y1 y2 hl
      have qx7 := HX7.out.k10
      by_cases hz : left - 1 = 0
      · have g1 : (left - 1 == 0) = true := by simpa using hz
        have HZ := hid hz
        have hw8 := ((((HX7.out.set 5 (i64 0)).set 6 (i64 r2)).set 7 (.bool false)).set 8 (i64 0)).set 9 (.bool true)
        simp only [List.set_cons_succ, List.set_cons_zero] at hw8
        have HW8 := hid hw8
        clear hw8 hz
        go_wp2_with fail
        go_end0
        unfold ClNo
        refine ⟨rfl, by repeat (with_reducible first | exact HK7.out | refine Keep.set ?_ _ _ (fun _ => rfl)), ?_⟩
        rw [HR2.out]
        exact ⟨fun _ => HW8.out, fun h => absurd HZ.out h⟩
      · have g1 : (left - 1 == 0) = false := by simpa using hz
        have HZ := hid hz
        have HT := hid (snap_try b s x (i64 (left - 1)) nx tk (i64 0) (i64 0) (.bool false) (i64 0) (.bool false) w7 hs.2 hb HX7.out)
        clear hz
        go_wp2_with fail
        refine HT.out.mono ?_
        rintro e w8 ⟨rfl, po, pg, px, go, oc, t1, t2, t3, t4, t5, t6, t7, t8⟩
        have HKE := hid (HK7.out.trans t8 (fun _ _ h => h))
        have hz7 := HK7.out.size
        have HTQ := hid (show TryQ b s x (i64 (left - 1)) (i64 0) (i64 0) (.bool false) (i64 0) (.bool false) w w8 from ⟨po, pg, px, go, oc, t1, t2, t3, t4, t5, ⟨Nat.le_trans hz7 t6.1, Nat.le_trans hz7 t6.2.1, Nat.le_trans hz7 t6.2.2.1, Nat.le_trans hz7 t6.2.2.2⟩, t7⟩)
        clear t1 t2 t3 t4 t5 t6 t7 t8
        go_wp2_with fail
        go_end0
        refine ⟨rfl, HKE.out, ?_⟩
        exact ⟨fun h => absurd h HZ.out, fun _ => HTQ.out⟩
end Go.Proofs.Ytlkniogapdhcpaa


namespace Go.Proofs.Ytlkniogapdhcpaa
open Go.RowKit
set_option linter.unusedVariables false
set_option linter.unusedSimpArgs false
set_option maxRecDepth 100000
theorem rd_wl {b s k : Nat} (h : k < 4 + 2 * s) : rd ((wl b s).map Int.ofNat) k = ((wat b s k : Nat) : Int) := by
  have hl : k < (wl b s).length := by rw [wl_length]; exact h
  simp [rd, wat, hl]
set_option maxHeartbeats 1000000 in
theorem snap_next (b s po pg go oc k c : Nat) (A : Option Addr) (w : World) (hpo : Blk w po 33 [.slice (some ⟨go, 0, none⟩) (4 + 2 * s) oc]) (hpg : Blk w pg 33 [.slice A k c]) (hI : Ints w go ((wl b s).map Int.ofNat)) (hk : k < 4 + 2 * s) :
    Calls Try.prog 44 #[ptr po, ptr pg] w fun e w' => e = .returned (i64 ((wat b s k : Nat) : Int)) ∧ w = w' := by
  have qo := hpo.k1
  have qg := hpg.k1
  have c1 := hI.cell k (by rw [List.length_map, wl_length]; exact hk)
  rw [rd_wl hk] at c1
  have cz := hI.lt
  have q1 : (k : Int) < 4 + 2 * (s : Int) := by omega
  generalize wat b s k = v at *
  clear hpo hpg hI
  go_enter Try.func44, Try.ntmps44
  go_wp2_with fail
  go_ret
  exact ⟨rfl, rfl⟩
set_option maxHeartbeats 2000000 in
theorem snap_take_more (s po pg px go oc x c : Nat) (n : Int) (g : List Int) (A : Option Addr) (w : World) (hpo : Blk w po 33 [.slice (some ⟨go, 0, none⟩) (4 + 2 * s) oc]) (hpg : Blk w pg 33 [.slice A g.length c]) (hpx : Blk w px 35 [ptr x]) (ho : w.ownsRow 0 3 1 (.slice A g.length c) g.length (ints g)) (hpog : po ≠ pg) (hs : s ≤ 8) (hg : g.length + 1 < 4 + 2 * s) :
    Calls Try.prog 45 #[i64 n, ptr pg, ptr po, ptr px] w fun e w' => e = .returned (.tuple #[]) ∧ ∃ A' c', Blk w' pg 33 [.slice A' (g.length + 1) c'] ∧ w'.ownsRow 0 3 1 (.slice A' (g.length + 1) c') (g.length + 1) (ints g ++ [i64 n]) ∧
      Keep (fun k => k = pg ∨ (Value.slice A 0 0).ownBlock = some k) w w' ∧ (∀ k, (Value.slice A' 0 0).ownBlock = some k → (Value.slice A 0 0).ownBlock = some k ∨ w.heap.size ≤ k) := by
  have q1 : (((g.length + 1 : Nat) : Int) == 4 + 2 * (s : Int)) = false := by simp; omega
  have q2 : (((g.length : Nat) : Int) + 1 == 4 + 2 * (s : Int)) = false := by simp; omega
  obtain ⟨i0, hti, hz0, hz1, hz2⟩ := info_parts info_int
  have HI := hid hti
  have HPG := hid hpg
  have HPO := hid hpo
  have HPX := hid hpx
  have HO := hid ho
  have hpxg : px ≠ pg := hpx.ne hpg (by decide)
  have qg := hpg.k1
  have qo := hpo.k1
  clear hti hpg hpo hpx ho
  go_enter Try.func45, Try.ntmps45
  go_wp2_with (at_builtin; refine wpl_append_own ?a1 (.tmp 5) (.tmp 7) 33 ?a2 (0) 3 i0 ?z 1 8 ?a3 ?a4 ?a5 ?a6 ?a7 ?a8 ?a9 (.slice A g.length c) (g.length) (ints g) ?a10 ?hown (⟨w.heap.size, 0, none⟩) (1) (1) ([i64 n]) ?a11 ?a12 ?hnews ?hone ?h63 ?hby ?hbase ?_; (case a1 => rfl); (case a2 => rfl); (case a3 => exact Try.underlying33); (case a4 => exact HI.out); (case a5 => exact hz0); (case a6 => exact hz1); (case a7 => exact hz2); (case a8 => rfl); (case a9 => decide); (case a10 => rfl); (case a11 => rfl); (case a12 => rfl); (case hown => exact own_alloc0 HO.out _); (case h63 => unfold maxLen; omega); (case hby => omega); (case hnews => exact news_at (Blk.made (by simp) rfl)); (case hone => simp [Value.oneCell']); (case hbase => omega); intro A9 c9 w9 hown9 hg9 hsl9; have TG := hid (grown_blk hg9 (HPG.out.alloc (.cells #[i64 n] 3)) (ownBlock_ne (own_alloc0 HO.out (.cells #[i64 n] 3)) (HPG.out.alloc _) (by decide))); have TP := hid (grown_blk hg9 (HPO.out.alloc (.cells #[i64 n] 3)) (ownBlock_ne (own_alloc0 HO.out (.cells #[i64 n] 3)) (HPO.out.alloc _) (by decide))); have TX := hid (grown_blk hg9 (HPX.out.alloc (.cells #[i64 n] 3)) (ownBlock_ne (own_alloc0 HO.out (.cells #[i64 n] 3)) (HPX.out.alloc _) (by decide))); have qg9 := TG.out.k1; have qp9 := TP.out.k1; have qx9 := TX.out.k1)
  have HOA := own_alloc0 HO.out (.cells #[i64 n] 3)
  have hkg : Keep (fun k => k = pg ∨ (Value.slice A 0 0).ownBlock = some k) w (w9.setCell ⟨pg, 0, none⟩ (.slice A9 (g.length + 1) c9)) := (Keep.grown ((Keep.refl _ w).alloc (.cells #[i64 n] 3)) hg9 (fun k _ e => Or.inr (by rw [← e]; cases A <;> rfl))).set _ _ (fun _ => Or.inl rfl)
  have TG2 := TG.out.set 0 (.slice A9 (g.length + 1) c9)
  have TO2 := ownsRow_other hown9 (a := ⟨pg, 0, none⟩) (.slice A9 (g.length + 1) c9) (fun e => ownBlock_ne hown9 TG.out (by decide) e.symm)
  have HKG := hid hkg
  have HTG := hid (show Blk (w9.setCell ⟨pg, 0, none⟩ (.slice A9 (g.length + 1) c9)) pg 33 [.slice A9 (g.length + 1) c9] from TG2)
  have HTO := hid TO2
  have HSL := hid hsl9.1
  have hpp9 := HKG.out.blk HPO.out (by rintro (h | h); exact hpog h; exact ownBlock_ne HO.out HPO.out (by decide) (by rw [← h]; cases A <;> rfl))
  have hpx9 := HKG.out.blk HPX.out (by rintro (h | h); exact (HPX.out.ne HPG.out (by decide)) h; exact ownBlock_ne HO.out HPX.out (by decide) (by rw [← h]; cases A <;> rfl))
  have HPP9 := hid hpp9
  have HPX9 := hid hpx9
  clear hkg TG2 TO2 hown9 hg9 hsl9 TG TP TX HOA qg9 qp9 qx9 qg qo hpp9 hpx9
  go_end0
  refine ⟨rfl, A9, c9, HTG.out, HTO.out, HKG.out, fun k e => ?_⟩
  rcases HSL.out k (by rw [← e]; cases A9 <;> rfl) with h | h
  · exact Or.inl (by rw [← h]; cases A <;> rfl)
  · exact Or.inr (by simp at h; omega)
/-- what closed leaves: cells, or a fresh try -/
def ClE (b s x : Nat) (left : Int) (nx tk : Value) (g : List Int) (w w' : World) : Prop :=
  (calmB s g = true → Blk w' x 80 [i64 (b : Int), i64 (s : Int), i64 (left - 1), nx, tk, i64 0, i64 (gsum s g 8), .bool true, i64 0, .bool true]) ∧ (calmB s g = false → (left - 1 = 0 → Blk w' x 80 [i64 (b : Int), i64 (s : Int), i64 (left - 1), nx, tk, i64 0, i64 (rd g 2), .bool false, i64 0, .bool true]) ∧ (¬ left - 1 = 0 → TryQ b s x (i64 (left - 1)) (i64 0) (i64 0) (.bool false) (i64 0) (.bool false) w w'))
theorem snap_closed (b s x gg c : Nat) (left : Int) (nx tk : Value) (g : List Int) (w : World) (hs : 1 ≤ s ∧ s ≤ 8) (hx : Blk w x 80 [i64 (b : Int), i64 (s : Int), i64 (left), nx, tk, i64 0, i64 (0), .bool false, i64 0, .bool false]) (hl : 1 ≤ left ∧ left ≤ 1000) (hg : g.length = 4 + 2 * s) (hc : 4 + 2 * s ≤ c) (hI : Ints w gg g) (hgx : gg ≠ x) (hb : b ≤ 1000000) :
    Calls Try.prog 46 #[ptr x, .slice (some ⟨gg, 0, none⟩) (4 + 2 * s) c] w fun e w' => e = .returned (.tuple #[]) ∧ Keep (fun k => k = x) w w' ∧ ClE b s x left nx tk g w w' := by
  cases hc2 : calmB s g with
  | true =>
    refine (snap_closed_yes b s x gg c left nx tk g w hs hx hl hg hc hI hgx hc2).mono ?_
    rintro e w' ⟨rfl, h1, h2⟩
    exact ⟨rfl, h1, fun _ => h2, fun h => by rw [hc2] at h; cases h⟩
  | false =>
    refine (snap_closed_no b s x gg c left nx tk g w hs hx hl hg hc hI hgx hb hc2).mono ?_
    rintro e w' ⟨rfl, h1, h2⟩
    exact ⟨rfl, h1, fun h => (by rw [hc2] at h; cases h), fun _ => h2⟩
theorem TryQ.before {b s x : Nat} {lf e1 e2 e3 e4 en : Value} {w0 w w' : World} (h : TryQ b s x lf e1 e2 e3 e4 en w w') (hz : w0.heap.size ≤ w.heap.size) : TryQ b s x lf e1 e2 e3 e4 en w0 w' := by
  obtain ⟨po, pg, px, go, oc, t1, t2, t3, t4, t5, t6, t7⟩ := h
  exact ⟨po, pg, px, go, oc, t1, t2, t3, t4, t5, ⟨Nat.le_trans hz t6.1, Nat.le_trans hz t6.2.1, Nat.le_trans hz t6.2.2.1, Nat.le_trans hz t6.2.2.2⟩, t7⟩
set_option maxHeartbeats 2000000 in
theorem snap_take_full (b s po pg px go oc x c : Nat) (left n : Int) (nx tk : Value) (g : List Int) (A : Option Addr) (w : World) (hpo : Blk w po 33 [.slice (some ⟨go, 0, none⟩) (4 + 2 * s) oc]) (hpg : Blk w pg 33 [.slice A g.length c]) (hpx : Blk w px 35 [ptr x]) (ho : w.ownsRow 0 3 1 (.slice A g.length c) g.length (ints g)) (hpog : po ≠ pg) (hs : 1 ≤ s ∧ s ≤ 8) (hg : g.length + 1 = 4 + 2 * s)
    (hx : Blk w x 80 [i64 (b : Int), i64 (s : Int), i64 (left), nx, tk, i64 0, i64 (0), .bool false, i64 0, .bool false]) (hl : 1 ≤ left ∧ left ≤ 1000) (hb : b ≤ 1000000) :
    Calls Try.prog 45 #[i64 n, ptr pg, ptr po, ptr px] w fun e w' => e = .returned (.tuple #[]) ∧ Keep (fun k => (k = pg ∨ (Value.slice A 0 0).ownBlock = some k) ∨ k = x) w w' ∧ ClE b s x left nx tk (g ++ [n]) w w' := by
  have q1 : (((g.length + 1 : Nat) : Int) == 4 + 2 * (s : Int)) = true := by simp; omega
  have q2 : (((g.length : Nat) : Int) + 1 == 4 + 2 * (s : Int)) = true := by simp; omega
  have HX := hid hx
  have HGL := hid hg
  have hgb : g.length ≤ 30 := by omega
  clear hx hg
  obtain ⟨i0, hti, hz0, hz1, hz2⟩ := info_parts info_int
  have HI := hid hti
  have HPG := hid hpg
  have HPO := hid hpo
  have HPX := hid hpx
  have HO := hid ho
  have hpxg : px ≠ pg := hpx.ne hpg (by decide)
  have qg := hpg.k1
  have qo := hpo.k1
  clear hti hpg hpo hpx ho
  go_enter Try.func45, Try.ntmps45
  go_wp2_with (at_builtin; refine wpl_append_own ?a1 (.tmp 5) (.tmp 7) 33 ?a2 (0) 3 i0 ?z 1 8 ?a3 ?a4 ?a5 ?a6 ?a7 ?a8 ?a9 (.slice A g.length c) (g.length) (ints g) ?a10 ?hown (⟨w.heap.size, 0, none⟩) (1) (1) ([i64 n]) ?a11 ?a12 ?hnews ?hone ?h63 ?hby ?hbase ?_; (case a1 => rfl); (case a2 => rfl); (case a3 => exact Try.underlying33); (case a4 => exact HI.out); (case a5 => exact hz0); (case a6 => exact hz1); (case a7 => exact hz2); (case a8 => rfl); (case a9 => decide); (case a10 => rfl); (case a11 => rfl); (case a12 => rfl); (case hown => exact own_alloc0 HO.out _); (case h63 => unfold maxLen; omega); (case hby => omega); (case hnews => exact news_at (Blk.made (by simp) rfl)); (case hone => simp [Value.oneCell']); (case hbase => omega); intro A9 c9 w9 hown9 hg9 hsl9; have TG := hid (grown_blk hg9 (HPG.out.alloc (.cells #[i64 n] 3)) (ownBlock_ne (own_alloc0 HO.out (.cells #[i64 n] 3)) (HPG.out.alloc _) (by decide))); have TP := hid (grown_blk hg9 (HPO.out.alloc (.cells #[i64 n] 3)) (ownBlock_ne (own_alloc0 HO.out (.cells #[i64 n] 3)) (HPO.out.alloc _) (by decide))); have TX := hid (grown_blk hg9 (HPX.out.alloc (.cells #[i64 n] 3)) (ownBlock_ne (own_alloc0 HO.out (.cells #[i64 n] 3)) (HPX.out.alloc _) (by decide))); have qg9 := TG.out.k1; have qp9 := TP.out.k1; have qx9 := TX.out.k1)
  have HOA := own_alloc0 HO.out (.cells #[i64 n] 3)
  have hkg : Keep (fun k => k = pg ∨ (Value.slice A 0 0).ownBlock = some k) w (w9.setCell ⟨pg, 0, none⟩ (.slice A9 (g.length + 1) c9)) := (Keep.grown ((Keep.refl _ w).alloc (.cells #[i64 n] 3)) hg9 (fun k _ e => Or.inr (by rw [← e]; cases A <;> rfl))).set _ _ (fun _ => Or.inl rfl)
  have TG2 := TG.out.set 0 (.slice A9 (g.length + 1) c9)
  have TO2 := ownsRow_other hown9 (a := ⟨pg, 0, none⟩) (.slice A9 (g.length + 1) c9) (fun e => ownBlock_ne hown9 TG.out (by decide) e.symm)
  have HKG := hid hkg
  have HTG := hid (show Blk (w9.setCell ⟨pg, 0, none⟩ (.slice A9 (g.length + 1) c9)) pg 33 [.slice A9 (g.length + 1) c9] from TG2)
  have HTO := hid TO2
  have HSL := hid hsl9.1
  have hpp9 := HKG.out.blk HPO.out (by rintro (h | h); exact hpog h; exact ownBlock_ne HO.out HPO.out (by decide) (by rw [← h]; cases A <;> rfl))
  have hpx9 := HKG.out.blk HPX.out (by rintro (h | h); exact (HPX.out.ne HPG.out (by decide)) h; exact ownBlock_ne HO.out HPX.out (by decide) (by rw [← h]; cases A <;> rfl))
  have HPP9 := hid hpp9
  have HPX9 := hid hpx9
  clear hkg TG2 TO2 hown9 hg9 hsl9 TG TP TX HOA qg9 qp9 qx9 qg qo hpp9 hpx9
  have hxp : x ≠ pg := HX.out.ne HPG.out (by decide)
  have hx9 := HKG.out.blk HX.out (by rintro (h | h); exact hxp h; exact ownBlock_ne HO.out HX.out (by decide) (by rw [← h]; cases A <;> rfl))
  have hg := HGL.out
  have hln : (g ++ [n]).length = g.length + 1 := by simp
  have hto := HTO.out
  rw [show ints g ++ [i64 n] = ints (g ++ [n]) from by simp [ints]] at hto
  obtain ⟨gg, rfl, hgg, _⟩ := ints_own hto (by omega) hln
  have hcc : 4 + 2 * s ≤ c9 := by
    rcases hto.2 with ⟨e, _⟩ | ⟨g2, cap, cur, e, _, _, hle, _⟩
    · cases e
    · cases e; omega
  have hgx : gg ≠ x := by
    rintro rfl
    obtain ⟨cur, h1, _⟩ := hgg
    have h2 : Blk _ gg 3 cur.toList := (show Blk (w9.setCell ⟨pg, 0, none⟩ (.slice (some ⟨gg, 0, none⟩) (g.length + 1) c9)) gg 3 cur.toList from by unfold Blk; simpa using h1)
    exact h2.ne hx9 (by decide) rfl
  have HCL := hid (snap_closed b s x gg c9 left nx tk (g ++ [n]) _ hs hx9 hl (by rw [hln]; exact hg) hcc hgg hgx hb)
  rw [← HGL.out] at HCL
  clear hto hgg hln hx9 hg
  generalize w9.setCell ⟨pg, 0, none⟩ (.slice (some ⟨gg, 0, none⟩) (g.length + 1) c9) = w10 at *
  refine HCL.out.mono ?_
  rintro e w11 ⟨rfl, hk, hce⟩
  have HK11 := hid hk
  have HCE := hid hce
  clear hk hce
  go_wp2_with fail
  go_end0
  have hz := HKG.out.size
  refine ⟨rfl, (HKG.out.mono (fun _ h => Or.inl h)).trans HK11.out (fun _ _ h => Or.inr h), HCE.out.1, fun h => ?_⟩
  obtain ⟨h1, h2⟩ := HCE.out.2 h
  exact ⟨h1, fun h3 => (h2 h3).before hz⟩
end Go.Proofs.Ytlkniogapdhcpaa


namespace Go.Proofs.Ytlkniogapdhcpaa
open Go.RowKit
set_option linter.unusedVariables false
set_option linter.unusedSimpArgs false
set_option maxRecDepth 100000
/-- within Step's region: 10 loads, 11 takes -/
def WSn (P0 P1 P2 : World → Prop) (S : Nat → Bool) (wx : World) : Prop := (S 10 = false → P0 wx) ∧ (S 10 = true → S 11 = false → P1 wx) ∧ (S 11 = true → P2 wx)
theorem WSn.fixed {P0 P1 P2 : World → Prop} {S : Nat → Bool} {wx : World} {i : Nat} (h : WSn P0 P1 P2 S wx) (hi : i ≠ 10 ∧ i ≠ 11) : WSn P0 P1 P2 (upd S i) wx := by
  unfold WSn
  rw [show upd S i 10 = S 10 from by simp [upd, Ne.symm hi.1], show upd S i 11 = S 11 from by simp [upd, Ne.symm hi.2]]
  exact h
theorem WSn.loaded {P0 P1 P2 : World → Prop} {S : Nat → Bool} {wx w2 : World} (h : WSn P0 P1 P2 S wx) (h10 : S 10 = false) (h11 : S 11 = true → S 10 = true) (hp : P1 w2) : WSn P0 P1 P2 (upd S 10) w2 := by
  unfold WSn
  rw [show upd S 10 10 = true from by simp [upd], show upd S 10 11 = S 11 from by simp [upd]]
  refine ⟨fun h => (by cases h), fun _ _ => hp, fun e => ?_⟩
  have := h11 e
  rw [h10] at this
  cases this
theorem WSn.taken {P0 P1 P2 : World → Prop} {S : Nat → Bool} {wx w2 : World} (h : WSn P0 P1 P2 S wx) (h10 : S 10 = true) (hp : P2 w2) : WSn P0 P1 P2 (upd S 11) w2 := by
  unfold WSn
  rw [show upd S 11 11 = true from by simp [upd], show upd S 11 10 = S 10 from by simp [upd]]
  exact ⟨fun e => (by rw [h10] at e; cases e), fun _ e => (by cases e), fun _ => hp⟩
theorem WSn.x3 {P2 : World → Prop} {K : World → Prop} {Q : World → Prop} {P : World → Prop} {S : Nat → Bool} {wx : World} (h : WSn P K P2 S wx) (h11 : S 11 = false) (h0 : P wx → Q wx) (h1 : K wx → Q wx) : Q wx := by
  cases e : S 10 with
  | false => exact h0 (h.1 e)
  | true => exact h1 (h.2.1 e h11)
set_option maxHeartbeats 4000000 in
theorem snap_Step_go {B m a x v : Nat} {lv : Value} {W : List Int} {L : List Acc} {w : World} {b : Int} {c2 c3 c5 c6 c7 c8 : Value} {po pg px : Nat} (T : World → World → Prop) (fin : Bool) (hm : MemAt B w m a lv W L) (hx : Blk w x 80 [i64 (b : Int), c2, c3, .func (.func 44) #[] #[ptr po, ptr pg], .func (.func 45) #[] #[ptr pg, ptr po, ptr px], c5, c6, c7, c8, .bool false]) (hxf : ¬ MF m a lv x) (hv : v < W.length) (hL : L.length ≤ 1000000000)
    (hN : ∀ w1, Keep0 w w1 → Calls Try.prog 44 #[ptr po, ptr pg] w1 fun e w' => e = .returned (i64 ((v : Nat) : Int)) ∧ w1 = w')
    (hT : ∀ w1, Keep (MF m a lv) w w1 → Calls Try.prog 45 #[i64 (rd W v), ptr pg, ptr po, ptr px] w1 fun e w' => e = .returned (.tuple #[]) ∧ T w1 w')
    (hF : ∀ w1 w2, Keep (MF m a lv) w w1 → T w1 w2 → w2.cell? ⟨x, 9, none⟩ = some (.bool fin)) :
    Calls Try.prog 18 #[ptr x, ptr m] w fun e w' => e = .returned (.bool fin) ∧ ∃ lv1 w1, MemAt B w1 m a lv1 W (L ++ [⟨1, (v : Nat), rd W v, 0, false⟩]) ∧ Keep (MF m a lv) w w1 ∧ (∀ k, lv1.ownBlock = some k → lv.ownBlock = some k ∨ w.heap.size ≤ k) ∧ T w1 w' := by
  have HX := hid hx
  have HM := hid hm
  have HXF := hid hxf
  have HN := hid hN
  have HT := hid hT
  have HF := hid hF
  have qx := hx.k10
  clear hx hm hxf hN hT hF
  go_enter Try.func18, Try.ntmps18
  go_wp2_with fail
  apply wp_region_text (WI := WSn (fun wx => Keep0 w wx) (fun wx => ∃ lv1, MemAt B wx m a lv1 W (L ++ [⟨1, (v : Nat), rd W v, 0, false⟩]) ∧ Keep (MF m a lv) w wx ∧ (∀ k, lv1.ownBlock = some k → lv.ownBlock = some k ∨ w.heap.size ≤ k)) (fun wx => ∃ lv1 w1, MemAt B w1 m a lv1 W (L ++ [⟨1, (v : Nat), rd W v, 0, false⟩]) ∧ Keep (MF m a lv) w w1 ∧ (∀ k, lv1.ownBlock = some k → lv.ownBlock = some k ∨ w.heap.size ≤ k) ∧ T w1 wx)) (by kernel_rfl) (by kernel_rfl)
  case hob =>
    apply Oblig.cons
    case h =>
      intro S w1 hwi hSi hd hcl
      apply StepOk.intro
      intro K hK
      go_simp
      apply hK
      · rfl
      · conv => (lhs; whnf)
      · exact hwi.fixed (by decide)
    simp only [put_lit, put_none]
    try dsimp only [List.set_cons_succ, List.set_cons_zero]
    apply Oblig.cons
    case h =>
      intro S w1 hwi hSi hd hcl
      apply StepOk.intro
      intro K hK
      go_simp
      apply hK
      · rfl
      · conv => (lhs; whnf)
      · exact hwi.fixed (by decide)
    simp only [put_lit, put_none]
    try dsimp only [List.set_cons_succ, List.set_cons_zero]
    apply Oblig.cons
    case h =>
      intro S w1 hwi hSi hd hcl
      apply StepOk.intro
      intro K hK
      go_simp
      apply hK
      · rfl
      · conv => (lhs; whnf)
      · exact hwi.fixed (by decide)
    simp only [put_lit, put_none]
    try dsimp only [List.set_cons_succ, List.set_cons_zero]
    apply Oblig.cons
    case h =>
      intro S w1 hwi hSi hd hcl
      apply StepOk.intro
      intro K hK
      have hlast : S 11 = false := by
        cases h : S 11 with
        | false => rfl
        | true => exact absurd ((hcl 11 _ rfl h) ⟨3, .data⟩ (by simp) rfl) (by rw [hSi]; decide)
      have hbx := WSn.x3 (Q := fun w1 => Blk w1 x _ _) hwi hlast (fun h => h.blk HX.out (fun e => e)) (fun h => h.choose_spec.2.1.blk HX.out HXF.out)
      have qx := hbx.k10
      go_simp
      apply hK
      · rfl
      · conv => (lhs; whnf)
      · exact hwi.fixed (by decide)
    simp only [put_lit, put_none]
    try dsimp only [List.set_cons_succ, List.set_cons_zero]
    apply Oblig.cons
    case h =>
      intro S w1 hwi hSi hd hcl
      apply StepOk.intro
      intro K hK
      go_simp
      apply hK
      · rfl
      · conv => (lhs; whnf)
      · exact hwi.fixed (by decide)
    simp only [put_lit, put_none]
    try dsimp only [List.set_cons_succ, List.set_cons_zero]
    apply Oblig.cons
    case h =>
      intro S w1 hwi hSi hd hcl
      apply StepOk.intro
      intro K hK
      go_simp
      apply hK
      · rfl
      · conv => (lhs; whnf)
      · exact hwi.fixed (by decide)
    simp only [put_lit, put_none]
    try dsimp only [List.set_cons_succ, List.set_cons_zero]
    apply Oblig.cons
    case h =>
      intro S w1 hwi hSi hd hcl
      apply StepOk.intro
      intro K hK
      go_simp
      apply hK
      · rfl
      · conv => (lhs; whnf)
      · exact hwi.fixed (by decide)
    simp only [put_lit, put_none]
    try dsimp only [List.set_cons_succ, List.set_cons_zero]
    apply Oblig.cons
    case h =>
      intro S w1 hwi hSi hd hcl
      apply StepOk.intro
      intro K hK
      go_simp
      apply hK
      · rfl
      · conv => (lhs; whnf)
      · exact hwi.fixed (by decide)
    simp only [put_lit, put_none]
    try dsimp only [List.set_cons_succ, List.set_cons_zero]
    apply Oblig.cons
    case h =>
      intro S w1 hwi hSi hd hcl
      apply StepOk.intro
      intro K hK
      have h10 : S 10 = false := by
        cases h : S 10 with
        | false => rfl
        | true =>
          have h9 := (hcl 10 _ rfl h) ⟨9, .data⟩ (by simp) rfl
          have h8 := (hcl 9 _ rfl h9) ⟨8, .data⟩ (by simp) rfl
          rw [hSi] at h8
          cases h8
      have qx := ((hwi.1 h10).blk HX.out (fun e => e)).k10
      go_simp
      apply hK
      · rfl
      · conv => (lhs; whnf)
      · exact hwi.fixed (by decide)
    simp only [put_lit, put_none]
    try dsimp only [List.set_cons_succ, List.set_cons_zero]
    apply Oblig.cons
    case h =>
      intro S w1 hwi hSi hd hcl
      apply StepOk.intro
      intro K hK
      have h10 : S 10 = false := by
        cases h : S 10 with
        | false => rfl
        | true =>
          have h9 := (hcl 10 _ rfl h) ⟨9, .data⟩ (by simp) rfl
          rw [hSi] at h9
          cases h9
      go_simp
      refine (HN.out _ (hwi.1 h10)).mono ?_
      rintro e w2 ⟨rfl, rfl⟩
      apply hK
      · rfl
      · conv => (lhs; whnf)
      · exact hwi.fixed (by decide)
    simp only [put_lit, put_none]
    try dsimp only [List.set_cons_succ, List.set_cons_zero]
    apply Oblig.cons
    case h =>
      intro S w1 hwi hSi hd hcl
      apply StepOk.intro
      intro K hK
      go_simp
      refine (mem_Load (v : Int) (HM.out.same (hwi.1 hSi)) (by omega) (by omega) hL).mono ?_
      rintro e w2 ⟨rfl, hpo⟩
      rw [Int.toNat_natCast] at *
      apply hK
      · rfl
      · conv => (lhs; whnf)
      · exact hwi.loaded hSi (fun h => (hcl 11 _ rfl h) ⟨10, .data⟩ (by simp) rfl) (hpo.before (hwi.1 hSi))
    simp only [put_lit, put_none]
    try dsimp only [List.set_cons_succ, List.set_cons_zero]
    apply Oblig.cons
    case h =>
      intro S w1 hwi hSi hd hcl
      apply StepOk.intro
      intro K hK
      obtain ⟨lv1, k1, k2, k3⟩ := hwi.2.1 (hd ⟨10, .data⟩ (by simp) rfl) hSi
      go_simp
      refine (HT.out _ k2).mono ?_
      rintro e w2 ⟨rfl, htt⟩
      apply hK
      · rfl
      · conv => (lhs; whnf)
      · exact hwi.taken (hd ⟨10, .data⟩ (by simp) rfl) ⟨lv1, _, k1, k2, k3, htt⟩
    simp only [put_lit, put_none]
    try dsimp only [List.set_cons_succ, List.set_cons_zero]
    exact Oblig.nil
  case h0 =>
    exact ⟨fun _ => (Keep.refl _ _).drew, (fun h => by cases h), (fun h => by cases h)⟩
  case hend =>
    intro S wx hwi hall
    obtain ⟨lv1, w1, k1, k2, k3, htt⟩ := hwi.2.2 (hall 11 (by decide))
    have HTT := hid htt
    have HK1 := hid k1
    have HK2 := hid k2
    have HK3 := hid k3
    have cend := HF.out _ _ k2 htt
    clear hwi hall k1 k2 k3 htt qx
    go_wp2_with fail
    go_ret
    exact ⟨rfl, lv1, w1, HK1.out, HK2.out, HK3.out, HTT.out⟩
set_option maxHeartbeats 4000000 in
theorem snap_Step_peek {B m a x v : Nat} {lv : Value} {W : List Int} {L : List Acc} {w : World} {b : Int} {c2 c3 c5 c6 c7 c8 : Value} {pb px : Nat} (T : World → World → Prop) (fin : Bool) (hm : MemAt B w m a lv W L) (hx : Blk w x 80 [i64 (b : Int), c2, c3, .func (.func 34) #[] #[ptr pb], .func (.func 35) #[] #[ptr px], c5, c6, c7, c8, .bool false]) (hxf : ¬ MF m a lv x) (hv : v < W.length) (hL : L.length ≤ 1000000000)
    (hN : ∀ w1, Keep0 w w1 → Calls Try.prog 34 #[ptr pb] w1 fun e w' => e = .returned (i64 ((v : Nat) : Int)) ∧ w1 = w')
    (hT : ∀ w1, Keep (MF m a lv) w w1 → Calls Try.prog 35 #[i64 (rd W v), ptr px] w1 fun e w' => e = .returned (.tuple #[]) ∧ T w1 w')
    (hF : ∀ w1 w2, Keep (MF m a lv) w w1 → T w1 w2 → w2.cell? ⟨x, 9, none⟩ = some (.bool fin)) :
    Calls Try.prog 18 #[ptr x, ptr m] w fun e w' => e = .returned (.bool fin) ∧ ∃ lv1 w1, MemAt B w1 m a lv1 W (L ++ [⟨1, (v : Nat), rd W v, 0, false⟩]) ∧ Keep (MF m a lv) w w1 ∧ (∀ k, lv1.ownBlock = some k → lv.ownBlock = some k ∨ w.heap.size ≤ k) ∧ T w1 w' := by
  have HX := hid hx
  have HM := hid hm
  have HXF := hid hxf
  have HN := hid hN
  have HT := hid hT
  have HF := hid hF
  have qx := hx.k10
  clear hx hm hxf hN hT hF
  go_enter Try.func18, Try.ntmps18
  go_wp2_with fail
  apply wp_region_text (WI := WSn (fun wx => Keep0 w wx) (fun wx => ∃ lv1, MemAt B wx m a lv1 W (L ++ [⟨1, (v : Nat), rd W v, 0, false⟩]) ∧ Keep (MF m a lv) w wx ∧ (∀ k, lv1.ownBlock = some k → lv.ownBlock = some k ∨ w.heap.size ≤ k)) (fun wx => ∃ lv1 w1, MemAt B w1 m a lv1 W (L ++ [⟨1, (v : Nat), rd W v, 0, false⟩]) ∧ Keep (MF m a lv) w w1 ∧ (∀ k, lv1.ownBlock = some k → lv.ownBlock = some k ∨ w.heap.size ≤ k) ∧ T w1 wx)) (by kernel_rfl) (by kernel_rfl)
  case hob =>
    apply Oblig.cons
    case h =>
      intro S w1 hwi hSi hd hcl
      apply StepOk.intro
      intro K hK
      go_simp
      apply hK
      · rfl
      · conv => (lhs; whnf)
      · exact hwi.fixed (by decide)
    simp only [put_lit, put_none]
    try dsimp only [List.set_cons_succ, List.set_cons_zero]
    apply Oblig.cons
    case h =>
      intro S w1 hwi hSi hd hcl
      apply StepOk.intro
      intro K hK
      go_simp
      apply hK
      · rfl
      · conv => (lhs; whnf)
      · exact hwi.fixed (by decide)
    simp only [put_lit, put_none]
    try dsimp only [List.set_cons_succ, List.set_cons_zero]
    apply Oblig.cons
    case h =>
      intro S w1 hwi hSi hd hcl
      apply StepOk.intro
      intro K hK
      go_simp
      apply hK
      · rfl
      · conv => (lhs; whnf)
      · exact hwi.fixed (by decide)
    simp only [put_lit, put_none]
    try dsimp only [List.set_cons_succ, List.set_cons_zero]
    apply Oblig.cons
    case h =>
      intro S w1 hwi hSi hd hcl
      apply StepOk.intro
      intro K hK
      have hlast : S 11 = false := by
        cases h : S 11 with
        | false => rfl
        | true => exact absurd ((hcl 11 _ rfl h) ⟨3, .data⟩ (by simp) rfl) (by rw [hSi]; decide)
      have hbx := WSn.x3 (Q := fun w1 => Blk w1 x _ _) hwi hlast (fun h => h.blk HX.out (fun e => e)) (fun h => h.choose_spec.2.1.blk HX.out HXF.out)
      have qx := hbx.k10
      go_simp
      apply hK
      · rfl
      · conv => (lhs; whnf)
      · exact hwi.fixed (by decide)
    simp only [put_lit, put_none]
    try dsimp only [List.set_cons_succ, List.set_cons_zero]
    apply Oblig.cons
    case h =>
      intro S w1 hwi hSi hd hcl
      apply StepOk.intro
      intro K hK
      go_simp
      apply hK
      · rfl
      · conv => (lhs; whnf)
      · exact hwi.fixed (by decide)
    simp only [put_lit, put_none]
    try dsimp only [List.set_cons_succ, List.set_cons_zero]
    apply Oblig.cons
    case h =>
      intro S w1 hwi hSi hd hcl
      apply StepOk.intro
      intro K hK
      go_simp
      apply hK
      · rfl
      · conv => (lhs; whnf)
      · exact hwi.fixed (by decide)
    simp only [put_lit, put_none]
    try dsimp only [List.set_cons_succ, List.set_cons_zero]
    apply Oblig.cons
    case h =>
      intro S w1 hwi hSi hd hcl
      apply StepOk.intro
      intro K hK
      go_simp
      apply hK
      · rfl
      · conv => (lhs; whnf)
      · exact hwi.fixed (by decide)
    simp only [put_lit, put_none]
    try dsimp only [List.set_cons_succ, List.set_cons_zero]
    apply Oblig.cons
    case h =>
      intro S w1 hwi hSi hd hcl
      apply StepOk.intro
      intro K hK
      go_simp
      apply hK
      · rfl
      · conv => (lhs; whnf)
      · exact hwi.fixed (by decide)
    simp only [put_lit, put_none]
    try dsimp only [List.set_cons_succ, List.set_cons_zero]
    apply Oblig.cons
    case h =>
      intro S w1 hwi hSi hd hcl
      apply StepOk.intro
      intro K hK
      have h10 : S 10 = false := by
        cases h : S 10 with
        | false => rfl
        | true =>
          have h9 := (hcl 10 _ rfl h) ⟨9, .data⟩ (by simp) rfl
          have h8 := (hcl 9 _ rfl h9) ⟨8, .data⟩ (by simp) rfl
          rw [hSi] at h8
          cases h8
      have qx := ((hwi.1 h10).blk HX.out (fun e => e)).k10
      go_simp
      apply hK
      · rfl
      · conv => (lhs; whnf)
      · exact hwi.fixed (by decide)
    simp only [put_lit, put_none]
    try dsimp only [List.set_cons_succ, List.set_cons_zero]
    apply Oblig.cons
    case h =>
      intro S w1 hwi hSi hd hcl
      apply StepOk.intro
      intro K hK
      have h10 : S 10 = false := by
        cases h : S 10 with
        | false => rfl
        | true =>
          have h9 := (hcl 10 _ rfl h) ⟨9, .data⟩ (by simp) rfl
          rw [hSi] at h9
          cases h9
      go_simp
      refine (HN.out _ (hwi.1 h10)).mono ?_
      rintro e w2 ⟨rfl, rfl⟩
      apply hK
      · rfl
      · conv => (lhs; whnf)
      · exact hwi.fixed (by decide)
    simp only [put_lit, put_none]
    try dsimp only [List.set_cons_succ, List.set_cons_zero]
    apply Oblig.cons
    case h =>
      intro S w1 hwi hSi hd hcl
      apply StepOk.intro
      intro K hK
      go_simp
      refine (mem_Load (v : Int) (HM.out.same (hwi.1 hSi)) (by omega) (by omega) hL).mono ?_
      rintro e w2 ⟨rfl, hpo⟩
      rw [Int.toNat_natCast] at *
      apply hK
      · rfl
      · conv => (lhs; whnf)
      · exact hwi.loaded hSi (fun h => (hcl 11 _ rfl h) ⟨10, .data⟩ (by simp) rfl) (hpo.before (hwi.1 hSi))
    simp only [put_lit, put_none]
    try dsimp only [List.set_cons_succ, List.set_cons_zero]
    apply Oblig.cons
    case h =>
      intro S w1 hwi hSi hd hcl
      apply StepOk.intro
      intro K hK
      obtain ⟨lv1, k1, k2, k3⟩ := hwi.2.1 (hd ⟨10, .data⟩ (by simp) rfl) hSi
      go_simp
      refine (HT.out _ k2).mono ?_
      rintro e w2 ⟨rfl, htt⟩
      apply hK
      · rfl
      · conv => (lhs; whnf)
      · exact hwi.taken (hd ⟨10, .data⟩ (by simp) rfl) ⟨lv1, _, k1, k2, k3, htt⟩
    simp only [put_lit, put_none]
    try dsimp only [List.set_cons_succ, List.set_cons_zero]
    exact Oblig.nil
  case h0 =>
    exact ⟨fun _ => (Keep.refl _ _).drew, (fun h => by cases h), (fun h => by cases h)⟩
  case hend =>
    intro S wx hwi hall
    obtain ⟨lv1, w1, k1, k2, k3, htt⟩ := hwi.2.2 (hall 11 (by decide))
    have HTT := hid htt
    have HK1 := hid k1
    have HK2 := hid k2
    have HK3 := hid k3
    have cend := HF.out _ _ k2 htt
    clear hwi hall k1 k2 k3 htt qx
    go_wp2_with fail
    go_ret
    exact ⟨rfl, lv1, w1, HK1.out, HK2.out, HK3.out, HTT.out⟩
end Go.Proofs.Ytlkniogapdhcpaa


namespace Go.Proofs.Ytlkniogapdhcpaa
open Go.RowKit
set_option linter.unusedVariables false
set_option linter.unusedSimpArgs false
set_option maxRecDepth 100000
def ncs (b s : Nat) (nx tk : Value) (t : SN) : List Value := [i64 (b : Int), i64 (s : Int), i64 t.left, nx, tk, i64 0, i64 t.n, .bool t.ex, i64 0, .bool t.fin]
/-- a try that is under way: its words, and what it loaded; its blocks lie in R -/
def TryAt (b s : Nat) (R : Nat → Prop) (w : World) (x : Nat) (nx tk : Value) (got : List Int) : Prop :=
  ∃ (po pg px go oc : Nat) (A : Option Addr) (c : Nat), nx = .func (.func 44) #[] #[ptr po, ptr pg] ∧ tk = .func (.func 45) #[] #[ptr pg, ptr po, ptr px] ∧ Blk w po 33 [.slice (some ⟨go, 0, none⟩) (4 + 2 * s) oc] ∧ Ints w go ((wl b s).map Int.ofNat) ∧ Blk w px 35 [ptr x] ∧
    Blk w pg 33 [.slice A got.length c] ∧ w.ownsRow 0 3 1 (.slice A got.length c) got.length (ints got) ∧ po ≠ pg ∧ (R po ∧ R pg ∧ R px ∧ R go) ∧ (∀ k, (Value.slice A 0 0).ownBlock = some k → R k ∧ k ≠ go)
structure SnR (b s : Nat) (R : Nat → Prop) (w : World) (x : Nat) (t : SN) : Prop where
  lt : ∀ k, R k → k < w.heap.size
  rx : R x
  at_ : ∃ nx tk, Blk w x 80 (ncs b s nx tk t) ∧ (t.fin = false → TryAt b s R w x nx tk t.got)
theorem own0 (A : Option Addr) (n c : Nat) : (Value.slice A n c).ownBlock = (Value.slice A 0 0).ownBlock := by cases A <;> rfl
section
variable {B : Nat} {w : World} {m a x : Nat} {lv : Value} {W : List Int} {L : List Acc} {b s : Nat} {R : Nat → Prop}
theorem TryAt.keep {S : Nat → Prop} {w' : World} {nx tk : Value} {got : List Int} (h : TryAt b s R w x nx tk got) (hk : Keep S w w') (hS : ∀ k, R k → ¬ S k) : TryAt b s R w' x nx tk got := by
  obtain ⟨po, pg, px, go, oc, A, c, e1, e2, h1, h2, h3, h4, h5, h6, h7, h8⟩ := h
  exact ⟨po, pg, px, go, oc, A, c, e1, e2, hk.blk h1 (hS _ h7.1), hk.ints h2 (hS _ h7.2.2.2), hk.blk h3 (hS _ h7.2.2.1), hk.blk h4 (hS _ h7.2.1), ownsRow_keep h5 hk (fun k hkk => hS k (h8 k ((own0 _ _ _).symm.trans hkk)).1), h6, h7, h8⟩
theorem SnR.keep {S : Nat → Prop} {w' : World} {t : SN} (h : SnR b s R w x t) (hk : Keep S w w') (hS : ∀ k, R k → ¬ S k) : SnR b s R w' x t := by
  obtain ⟨nx, tk, h1, h2⟩ := h.at_
  exact ⟨fun k hr => Nat.lt_of_lt_of_le (h.lt k hr) hk.size, h.rx, nx, tk, hk.blk h1 (hS _ h.rx), fun e => (h2 e).keep hk hS⟩
set_option maxHeartbeats 1000000 in
theorem snap_Step_end {c1 c2 c3 c4 c5 c6 c7 c8 c9 : Value} (hx : Blk w x 80 [c1, c2, c3, c4, c5, c6, c7, c8, c9, .bool true]) :
    Calls Try.prog 18 #[ptr x, ptr m] w fun e w' => e = .returned (.bool true) ∧ w = w' := by
  have qx := hx.k10
  clear hx
  go_enter Try.func18, Try.ntmps18
  go_wp2_with fail
  go_ret
  exact ⟨rfl, rfl⟩
/-- what a step leaves -/
def SnQ (B : Nat) (w : World) (m a : Nat) (lv : Value) (x b s : Nat) (R : Nat → Prop) (t : SN) (w' : World) : Prop :=
  ∃ lv' R', MemAt B w' m a lv' t.W t.L ∧ SnR b s R' w' x t ∧ Keep (fun k => MF m a lv k ∨ R k) w w' ∧ (∀ k, lv'.ownBlock = some k → lv.ownBlock = some k ∨ w.heap.size ≤ k) ∧ (∀ k, R' k → R k ∨ w.heap.size ≤ k) ∧ (∀ k, R' k → ¬ MF m a lv' k)
theorem mf_lt {k : Nat} (hm : MemAt B w m a lv W L) (h : MF m a lv k) : k < w.heap.size := by
  rcases h with h | h | h
  · have := hm.mem.lt; omega
  · have := hm.words.lt; omega
  · exact (hm.log.lt k h).2
/-- a step: the load left w1, what takes it left w' -/
theorem snQ_of {w1 w' : World} {lv1 : Value} {t : SN} {S : Nat → Prop} (hm1 : MemAt B w1 m a lv1 t.W t.L) (hk1 : Keep (MF m a lv) w w1) (ho1 : ∀ k, lv1.ownBlock = some k → lv.ownBlock = some k ∨ w.heap.size ≤ k) (hRl : ∀ k, R k → k < w.heap.size) (hRm : ∀ k, R k → ¬ MF m a lv k)
    (hkS : Keep S w1 w') (hS : ∀ k, S k → R k) (hn : SnR b s (fun k => R k ∨ (w1.heap.size ≤ k ∧ k < w'.heap.size)) w' x t) : SnQ B w m a lv x b s R t w' := by
  have hRm1 : ∀ k, R k → ¬ MF m a lv1 k := by
    intro k hr
    rintro (h | h | h)
    · exact hRm k hr (Or.inl h)
    · exact hRm k hr (Or.inr (Or.inl h))
    · rcases ho1 k h with h2 | h2
      · exact hRm k hr (Or.inr (Or.inr h2))
      · have := hRl k hr; omega
  have hz := hk1.size
  refine ⟨lv1, _, hm1.keep hkS (fun k h1 h2 => hRm1 k (hS k h2) h1), hn, (hk1.mono (fun _ h => Or.inl h)).trans hkS (fun _ _ h => Or.inr (hS _ h)), ho1, fun k h => h.imp id (fun h => Nat.le_trans hz h.1), fun k h => ?_⟩
  rcases h with h | h
  · exact hRm1 k h
  · exact fun h2 => by have := mf_lt hm1 h2; omega
set_option maxHeartbeats 1000000 in
theorem sn_Step (t : SN) (hm : MemAt B w m a lv t.W t.L) (hx : SnR b s R w x t) (hR : ∀ k, R k → ¬ MF m a lv k) (hi : NInv b s t) (hb : b ≤ 1000000) (hL : t.L.length ≤ 1000000000) :
    Calls Try.prog 18 #[ptr x, ptr m] w fun e w' => e = .returned (.bool (nStp b s t).2) ∧ SnQ B w m a lv x b s R (nStp b s t).1 w' := by
  show Calls _ _ _ _ (fun e w' => e = .returned (.bool (nNext b s t).fin) ∧ SnQ B w m a lv x b s R (nNext b s t) w')
  obtain ⟨nx, tk, hbx, htry⟩ := hx.at_
  cases hf : t.fin with
  | true =>
    have hbx' := hbx
    unfold ncs at hbx'
    rw [hf] at hbx'
    rw [nNext_over hf, hf]
    refine (snap_Step_end hbx').mono ?_
    rintro e w' ⟨rfl, rfl⟩
    exact ⟨rfl, lv, R, hm, hx, Keep.refl _ _, fun _ h => Or.inl h, fun _ h => Or.inl h, hR⟩
  | false =>
    obtain ⟨po, pg, px, go, oc, A, c, rfl, rfl, h1, h2, h3, h4, h5, h6, h7, h8⟩ := htry hf
    have hg := hi.gb hf
    have hl := hi.lb hf
    have hz := hi.z hf
    have hs := hi.s1
    have hwat := wat_bd (b := b) hs.1 hg
    have hln := hi.ln
    have hv : wat b s t.got.length < t.W.length := by omega
    have hcs : ncs b s (.func (.func 44) #[] #[ptr po, ptr pg]) (.func (.func 45) #[] #[ptr pg, ptr po, ptr px]) t = [i64 (b : Int), i64 (s : Int), i64 t.left, .func (.func 44) #[] #[ptr po, ptr pg], .func (.func 45) #[] #[ptr pg, ptr po, ptr px], i64 0, i64 0, .bool false, i64 0, .bool false] := by unfold ncs; rw [hz.1, hz.2, hf]
    rw [hcs] at hbx
    have hxf := hR x hx.rx
    have kS : ∀ {w1 : World}, Keep (MF m a lv) w w1 → Blk w1 x 80 [i64 (b : Int), i64 (s : Int), i64 t.left, .func (.func 44) #[] #[ptr po, ptr pg], .func (.func 45) #[] #[ptr pg, ptr po, ptr px], i64 0, i64 0, .bool false, i64 0, .bool false] ∧ Blk w1 po 33 [.slice (some ⟨go, 0, none⟩) (4 + 2 * s) oc] ∧ Blk w1 pg 33 [.slice A t.got.length c] ∧ Blk w1 px 35 [ptr x] ∧ w1.ownsRow 0 3 1 (.slice A t.got.length c) t.got.length (ints t.got) ∧ Ints w1 go ((wl b s).map Int.ofNat) := fun hk =>
      ⟨hk.blk hbx hxf, hk.blk h1 (hR _ h7.1), hk.blk h4 (hR _ h7.2.1), hk.blk h3 (hR _ h7.2.2.1), ownsRow_keep h5 hk (fun k hkk => hR k (h8 k ((own0 _ _ _).symm.trans hkk)).1), hk.ints h2 (hR _ h7.2.2.2)⟩
    have hN : ∀ w1, Keep0 w w1 → Calls Try.prog 44 #[ptr po, ptr pg] w1 fun e w' => e = .returned (i64 ((wat b s t.got.length : Nat) : Int)) ∧ w1 = w' := fun w1 hk =>
      snap_next b s po pg go oc t.got.length c A w1 (hk.blk h1 (fun h => h)) (hk.blk h4 (fun h => h)) (hk.ints h2 (fun h => h)) hg
    have hxpg : x ≠ pg := hbx.ne h4 (by decide)
    have hxA : (Value.slice A 0 0).ownBlock ≠ some x := fun e => ownBlock_ne h5 hbx (by decide) (by rw [own0, e])
    have hln1 : ∀ n : Int, (t.got ++ [n]).length = t.got.length + 1 := fun n => by simp
    have hin : ∀ n : Int, ints (t.got ++ [n]) = ints t.got ++ [i64 n] := fun n => by simp [ints]
    by_cases hfull : t.got.length + 1 = 4 + 2 * s
    · have e0 : nNext b s t = clN s { t with L := t.L ++ [⟨1, (wat b s t.got.length : Nat), rd t.W (wat b s t.got.length), 0, false⟩] } (t.got ++ [rd t.W (wat b s t.got.length)]) := by unfold nNext; rw [if_neg (by rw [hf]; decide), if_pos hfull]
      have hT : ∀ w1, Keep (MF m a lv) w w1 → Calls Try.prog 45 #[i64 (rd t.W (wat b s t.got.length)), ptr pg, ptr po, ptr px] w1 fun e w' => e = .returned (.tuple #[]) ∧ (Keep (fun k => (k = pg ∨ (Value.slice A 0 0).ownBlock = some k) ∨ k = x) w1 w' ∧ ClE b s x t.left (.func (.func 44) #[] #[ptr po, ptr pg]) (.func (.func 45) #[] #[ptr pg, ptr po, ptr px]) (t.got ++ [rd t.W (wat b s t.got.length)]) w1 w') := fun w1 hk => by
        obtain ⟨k1, k2, k3, k4, k5, _⟩ := kS hk
        exact snap_take_full b s po pg px go oc x c t.left _ _ _ t.got A w1 k2 k3 k4 k5 h6 hs hfull k1 ⟨hl, hi.lt⟩ hb
      have hSR : ∀ k, ((k = pg ∨ (Value.slice A 0 0).ownBlock = some k) ∨ k = x) → R k := by
        rintro k ((rfl | h) | rfl)
        · exact h7.2.1
        · exact (h8 k h).1
        · exact hx.rx
      have hWL := clN_W s { t with L := t.L ++ [⟨1, (wat b s t.got.length : Nat), rd t.W (wat b s t.got.length), 0, false⟩] } (t.got ++ [rd t.W (wat b s t.got.length)])
      have hfin : ∀ w1 w2, Keep (MF m a lv) w w1 → (Keep (fun k => (k = pg ∨ (Value.slice A 0 0).ownBlock = some k) ∨ k = x) w1 w2 ∧ ClE b s x t.left (.func (.func 44) #[] #[ptr po, ptr pg]) (.func (.func 45) #[] #[ptr pg, ptr po, ptr px]) (t.got ++ [rd t.W (wat b s t.got.length)]) w1 w2) → SnR b s (fun k => R k ∨ (w1.heap.size ≤ k ∧ k < w2.heap.size)) w2 x (nNext b s t) := by
        rintro w1 w2 hk1 ⟨hk2, hc1, hc2⟩
        have hz1 := hk1.size
        have hz2 := hk2.size
        refine ⟨?_, Or.inl hx.rx, ?_⟩
        · rintro k (h | h)
          · have := hx.lt k h; omega
          · exact h.2
        · rw [e0]
          generalize t.got ++ [rd t.W (wat b s t.got.length)] = g at *
          cases hcb : calmB s g with
          | true => exact ⟨_, _, by have h := hc1 hcb; simpa [clN, hcb, ncs] using h, fun e => by simp [clN, hcb] at e⟩
          | false =>
            obtain ⟨d1, d2⟩ := hc2 hcb
            by_cases hl0 : t.left - 1 = 0
            · exact ⟨_, _, by have h := d1 hl0; simpa [clN, hcb, ncs, hl0] using h, fun e => by simp [clN, hcb, hl0] at e⟩
            · obtain ⟨po', pg', px', go', oc', t1, t2, t3, t4, t5, t6, t7⟩ := d2 hl0
              refine ⟨_, _, by simpa [clN, hcb, ncs, hl0, hz.1, hz.2, hf] using t1, fun _ => ?_⟩
              have e5 : (clN s { t with L := t.L ++ [⟨1, (wat b s t.got.length : Nat), rd t.W (wat b s t.got.length), 0, false⟩] } g).got = [] := by simp [clN, hcb, hl0]
              rw [e5]
              exact ⟨po', pg', px', go', oc', none, 0, rfl, rfl, t2, t3, t4, t5, World.ownsRow_nil _ _ _ _, t7, ⟨Or.inr ⟨t6.1, t2.lt⟩, Or.inr ⟨t6.2.1, t5.lt⟩, Or.inr ⟨t6.2.2.1, t4.lt⟩, Or.inr ⟨t6.2.2.2, t3.lt⟩⟩, fun k e => by simp [Value.ownBlock] at e⟩
      refine (snap_Step_go (T := fun w1 w2 => Keep (fun k => (k = pg ∨ (Value.slice A 0 0).ownBlock = some k) ∨ k = x) w1 w2 ∧ ClE b s x t.left (.func (.func 44) #[] #[ptr po, ptr pg]) (.func (.func 45) #[] #[ptr pg, ptr po, ptr px]) (t.got ++ [rd t.W (wat b s t.got.length)]) w1 w2) (nNext b s t).fin hm hbx hxf hv hL hN hT (fun w1 w2 hk1 ht => by
        obtain ⟨_, _, hb9, _⟩ := (hfin w1 w2 hk1 ht).at_
        exact hb9.cell 9)).mono ?_
      rintro e w' ⟨rfl, lv1, w1, hm1, hk1, ho1, ht⟩
      refine ⟨rfl, snQ_of (w1 := w1) (S := fun k => (k = pg ∨ (Value.slice A 0 0).ownBlock = some k) ∨ k = x) (by rw [e0, hWL.1, hWL.2]; exact hm1) hk1 ho1 hx.lt hR ht.1 hSR (hfin w1 w' hk1 ht)⟩
    · have e0 : nNext b s t = { t with L := t.L ++ [⟨1, (wat b s t.got.length : Nat), rd t.W (wat b s t.got.length), 0, false⟩], got := t.got ++ [rd t.W (wat b s t.got.length)] } := by unfold nNext; rw [if_neg (by rw [hf]; decide), if_neg hfull]
      have hT : ∀ w1, Keep (MF m a lv) w w1 → Calls Try.prog 45 #[i64 (rd t.W (wat b s t.got.length)), ptr pg, ptr po, ptr px] w1 fun e w' => e = .returned (.tuple #[]) ∧ (∃ A' c', Blk w' pg 33 [.slice A' (t.got.length + 1) c'] ∧ w'.ownsRow 0 3 1 (.slice A' (t.got.length + 1) c') (t.got.length + 1) (ints t.got ++ [i64 (rd t.W (wat b s t.got.length))]) ∧ Keep (fun k => k = pg ∨ (Value.slice A 0 0).ownBlock = some k) w1 w' ∧ (∀ k, (Value.slice A' 0 0).ownBlock = some k → (Value.slice A 0 0).ownBlock = some k ∨ w1.heap.size ≤ k)) := fun w1 hk => by
        obtain ⟨k1, k2, k3, k4, k5, _⟩ := kS hk
        exact snap_take_more s po pg px go oc x c _ t.got A w1 k2 k3 k4 k5 h6 hs.2 (by omega)
      have hSR : ∀ k, (k = pg ∨ (Value.slice A 0 0).ownBlock = some k) → R k := by
        rintro k (rfl | h)
        · exact h7.2.1
        · exact (h8 k h).1
      have hSx : ¬ (x = pg ∨ (Value.slice A 0 0).ownBlock = some x) := by
        rintro (h | h)
        · exact hxpg h
        · exact hxA h
      refine (snap_Step_go (T := fun w1 w' => ∃ A' c', Blk w' pg 33 [.slice A' (t.got.length + 1) c'] ∧ w'.ownsRow 0 3 1 (.slice A' (t.got.length + 1) c') (t.got.length + 1) (ints t.got ++ [i64 (rd t.W (wat b s t.got.length))]) ∧ Keep (fun k => k = pg ∨ (Value.slice A 0 0).ownBlock = some k) w1 w' ∧ (∀ k, (Value.slice A' 0 0).ownBlock = some k → (Value.slice A 0 0).ownBlock = some k ∨ w1.heap.size ≤ k)) (nNext b s t).fin hm hbx hxf hv hL hN hT (fun w1 w2 hk1 ht => by
        obtain ⟨A', c', _, _, hk2, _⟩ := ht
        rw [e0]
        show _ = some (Value.bool t.fin)
        rw [hf]
        exact (hk2.blk (kS hk1).1 hSx).cell 9)).mono ?_
      rintro e w' ⟨rfl, lv1, w1, hm1, hk1, ho1, A', c', p1, p2, hk2, p3⟩
      have hz1 := hk1.size
      have hz2 := hk2.size
      obtain ⟨k1, k2, k3, k4, k5, k6⟩ := kS hk1
      refine ⟨rfl, snQ_of (w1 := w1) (S := fun k => k = pg ∨ (Value.slice A 0 0).ownBlock = some k) (by rw [e0]; exact hm1) hk1 ho1 hx.lt hR hk2 hSR ⟨?_, Or.inl hx.rx, .func (.func 44) #[] #[ptr po, ptr pg], .func (.func 45) #[] #[ptr pg, ptr po, ptr px], ?_, fun _ => ?_⟩⟩
      · rintro k (h | h)
        · have := hx.lt k h; omega
        · exact h.2
      · rw [e0]
        have h := hk2.blk k1 hSx
        simpa [ncs, hz.1, hz.2, hf] using h
      · rw [e0]
        show TryAt b s _ w' x _ _ (t.got ++ [rd t.W (wat b s t.got.length)])
        have hgol : go < w1.heap.size := k6.lt
        refine ⟨po, pg, px, go, oc, A', c', rfl, rfl, hk2.blk k2 ?_, hk2.ints k6 ?_, hk2.blk k4 ?_, by rw [hln1]; exact p1, by rw [hln1, hin]; exact p2, h6, ⟨Or.inl h7.1, Or.inl h7.2.1, Or.inl h7.2.2.1, Or.inl h7.2.2.2⟩, fun k e => ?_⟩
        · rintro (h | h)
          · exact h6 h
          · exact ownBlock_ne h5 h1 (by decide) (by rw [own0, h])
        · rintro (h | h)
          · obtain ⟨cur, hg1, _⟩ := h2
            exact (show Blk w go 3 cur.toList from by unfold Blk; simpa using hg1).ne h4 (by decide) h
          · exact (h8 go h).2 rfl
        · rintro (h | h)
          · exact h3.ne h4 (by decide) h
          · exact ownBlock_ne h5 h3 (by decide) (by rw [own0, h])
        · have hlt2 := (p2.lt k (by rw [own0, e])).2
          rcases p3 k e with h | h
          · exact ⟨Or.inl (h8 k h).1, (h8 k h).2⟩
          · exact ⟨Or.inr ⟨h, hlt2⟩, by omega⟩
end
end Go.Proofs.Ytlkniogapdhcpaa
