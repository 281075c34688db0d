/- Contracts and plain laws for UsageTells, part 13: what the walk of the law leans on. -/
import Derived.Deep.DeepCutAuto
import Derived.Deep.QuietTactic
import Derived.BigQuiet
import Derived.Test.YthaceckccobgeaaGreatZUsageTells2
import Derived.Test.YthaceckccobgeaaGreatZUsageTells3
import Derived.Test.YthaceckccobgeaaGreatZUsageTells4
import Derived.Test.YthaceckccobgeaaGreatZUsageTells5
import Derived.Test.YthaceckccobgeaaGreatZUsageTells11
import Derived.Test.YthaceckccobgeaaGreatZUsageTells12
namespace Go.Proofs.YthaceckccobgeaaGreat
open Go.RowKit
set_option linter.unusedVariables false
set_option linter.unusedSimpArgs false
set_option maxRecDepth 100000
theorem wpl_append_none {P : Program} {ops : Array Oper} {rest : List Oper} {o : Oper} {a : Act} {w : World} {Q : Exit → Act → World → Prop}
 (hgd : o.guard = none) (s x : Operand) (t : TypeId) (ho : o.op = .call { callee := .builtin .append, args := #[s, x], argTypes := #[t, t] })
 (e : TypeId) (i : TypeInfo) (ht : P.underlying t = some (.slice e)) (hi : P.info? e = some i)
 (b : Addr) (n c : Nat) (hs : a.eval s = .slice (some b) n c) (gv : Value) (hx : a.eval x = gv) (hgv : gv = .slice none 0 0) (hn : n ≤ c) (A' : Option Addr) (n' c' : Nat) (hA : A' = some b) (hn' : n' = n) (hc' : c' = c)
 (h : wpList P ops Q rest (a.put o.dst (.slice A' n' c')) w) : wpList P ops Q (o :: rest) a w :=
 wpList_step fun {K} hK => by
  subst hgv hA hn' hc'
  have hw : Region.wanted o (yielded ops a.tmps) = true := by simp [Region.wanted, hgd]
  rw [if_pos hw]
  have hr : (Builtin.append_ #[t, t] o.type #[.slice (some b) n' c', .slice none 0 0]).run P w = .ok (.slice (some b) n' c') w := by
   simp [Builtin.append_, run_underlying ht, sizeOf, typeInfo, hi, Builtin.lenOf, Builtin.firstCells, hn, storeCells]
  unfold Oper.wp execOp
  simp only [ho, resolve, invoke, builtin, Sem.run_bind, Sem.run_pure, Result.andThen_ok, List.map_toArray, List.map_cons, List.map_nil, hs, hx, hr]
  exact hK _ _ h
def vB (s : Nat) (g : List Int) : Nat → Bool
 | 0 => true
 | i + 1 => vB s g i && (rd g (3 + i) == rd g (4 + s + i))
theorem vB_vw (s : Nat) (g : List Int) : ∀ i, i ≤ s → vB s g i = true → ∀ j, j < i → vw s g 3 j = vw s g (4 + s) j := by
 intro i
 induction i with
 | zero => intro _ _ j h; omega
 | succ i ih =>
  intro hi h j hj
  simp only [vB, Bool.and_eq_true, beq_iff_eq] at h
  by_cases e : j = i
  · subst e
    unfold vw
    rw [if_pos (by omega), if_pos (by omega)]
    exact h.2
  · exact ih (by omega) h.1 j (by omega)
theorem vw_vB (s : Nat) (g : List Int) (h : ∀ j, j < s → vw s g 3 j = vw s g (4 + s) j) : ∀ i, i ≤ s → vB s g i = true := by
 intro i
 induction i with
 | zero => intro _; rfl
 | succ i ih =>
  intro hi
  have h1 := h i (by omega)
  unfold vw at h1
  rw [if_pos (by omega), if_pos (by omega)] at h1
  simp only [vB, Bool.and_eq_true, beq_iff_eq]
  exact ⟨ih (by omega), h1⟩
theorem vB_view {s : Nat} {g : List Int} (hs : s ≤ 8) : vB s g s = viewB s g := by
 rw [Bool.eq_iff_iff]
 constructor
 · intro h
   have h1 := vB_vw s g s (Nat.le_refl _) h
   have h2 : ∀ j, vw s g 3 j = vw s g (4 + s) j := by
    intro j
    by_cases hj : j < s
    · exact h1 j hj
    · unfold vw; rw [if_neg hj, if_neg hj]
   unfold viewB
   simp only [h2]
   simp
 · intro h
   refine vw_vB s g (fun j hj => ?_) s (Nat.le_refl _)
   unfold viewB at h
   simp only [Bool.and_eq_true, beq_iff_eq] at h
   have hj8 : j = 0 ∨ j = 1 ∨ j = 2 ∨ j = 3 ∨ j = 4 ∨ j = 5 ∨ j = 6 ∨ j = 7 := by omega
   rcases hj8 with rfl | rfl | rfl | rfl | rfl | rfl | rfl | rfl <;> simp [h]
theorem gsum_8 (s : Nat) (g : List Int) (hs : 1 ≤ s ∧ s ≤ 8) : gsum s g 8 = gsum s g s := by
 have h2 : ∀ d, gsum s g (s + d) = gsum s g s := by
  intro d
  induction d with
  | zero => rfl
  | succ d ih =>
   show wrap64 (gsum s _ (s + d) + pVal (vw s _ 3 (s + d))) = _
   rw [ih, show vw s g 3 (s + d) = 0 from by unfold vw; rw [if_neg (by omega)], show pVal 0 = 0 by unfold pVal wrap32; omega, Int.add_zero]
   obtain ⟨u, rfl⟩ : ∃ u, s = u + 1 := ⟨s - 1, by omega⟩
   show wrap64 (wrap64 _) = wrap64 _
   exact wrap64_wrap _
 have := h2 (8 - s)
 rw [show s + (8 - s) = 8 by omega] at this
 exact this
section
variable {B : Nat} {w : World} {m y : Nat} {b s : Nat} {lf an : Int} {pk ax en : Bool} {gv : Value} {g c : Nat}
set_option maxHeartbeats 1000000 in
theorem ref7_word (i : Nat) (hy : Blk w y 100 [i64 (b : Int), i64 (s : Int), i64 lf, .bool pk, gv, i64 0, i64 an, .bool ax, i64 0, .bool en]) (hb : b ≤ 1000000) (hs : 1 ≤ s ∧ s ≤ 8) (hi : i < 4 + 2 * s) : Calls Tryz.prog 106 #[ptr y, i64 (i : Int)] w (Ret (i64 ((wat b s i : Nat) : Int)) w) := by
 have qy := hy.k10
 have y1 : IntKind.i64.wrap (3 + (s : Int)) = 3 + (s : Int) := IntWalk.i64_in _ (by omega)
 have y2 : IntKind.i64.wrap ((b : Int) + 1) = ((b + 1 : Nat) : Int) := IntWalk.i64_in _ (by omega)
 have y3 : IntKind.i64.wrap ((b : Int) + 2) = ((b + 2 : Nat) : Int) := IntWalk.i64_in _ (by omega)
 have y4 : IntKind.i64.wrap ((b : Int) + 4) = (b : Int) + 4 := IntWalk.i64_in _ (by omega)
 have y5 : IntKind.i64.wrap ((b : Int) + 4 + (i : Int)) = (b : Int) + 4 + (i : Int) := IntWalk.i64_in _ (by omega)
 have hi0 : i = 0 ∨ i = 1 ∨ i = 2 ∨ (3 ≤ i ∧ i < 3 + s) ∨ i = 3 + s ∨ (4 + s ≤ i) := by omega
 clear hy
 rcases hi0 with rfl | rfl | rfl | ⟨h1, h2⟩ | rfl | h1
 · rw [wat_0]
   go_enter Tryz.func106, Tryz.ntmps106
   go_wp2_with fail
   go_ret
   exact ⟨rfl, Keep.refl _ _⟩
 · rw [wat_1]
   have g2 : ((1 : Int) == 3 + (s : Int)) = false := beq_eq_false_iff_ne.2 (by omega)
   go_enter Tryz.func106, Tryz.ntmps106
   go_wp2_with fail
   go_ret
   exact ⟨rfl, Keep.refl _ _⟩
 · rw [wat_two]
   have g2 : ((2 : Int) == 3 + (s : Int)) = false := beq_eq_false_iff_ne.2 (by omega)
   go_enter Tryz.func106, Tryz.ntmps106
   go_wp2_with fail
   go_ret
   exact ⟨rfl, Keep.refl _ _⟩
 · have e : wat b s i = b + (4 + (i - 3)) := by have := wat_a (b := b) (s := s) (i := i - 3) (by omega); rw [show 3 + (i - 3) = i by omega] at this; exact this
   rw [e]
   have g1 : ((i : Int) == 0) = false := beq_eq_false_iff_ne.2 (by omega)
   have g2 : ((i : Int) == 3 + (s : Int)) = false := beq_eq_false_iff_ne.2 (by omega)
   have g3 : ((i : Int) == 1) = false := beq_eq_false_iff_ne.2 (by omega)
   have g4 : ((i : Int) == 2) = false := beq_eq_false_iff_ne.2 (by omega)
   have g5 : decide ((i : Int) < 3 + (s : Int)) = true := decide_eq_true (by omega)
   have y6 : IntKind.i64.wrap ((b : Int) + 4 + (i : Int) - 3) = ((b + (4 + (i - 3)) : Nat) : Int) := by rw [IntWalk.i64_in _ (by omega)]; omega
   clear e
   generalize b + (4 + (i - 3)) = z at *
   go_enter Tryz.func106, Tryz.ntmps106
   go_wp2_with fail
   go_ret
   exact ⟨rfl, Keep.refl _ _⟩
 · rw [wat_m]
   have g1 : (((3 + s : Nat) : Int) == 0) = false := beq_eq_false_iff_ne.2 (by omega)
   have g2 : (((3 + s : Nat) : Int) == 3 + (s : Int)) = true := by simp
   generalize ((3 + s : Nat) : Int) = z at *
   go_enter Tryz.func106, Tryz.ntmps106
   go_wp2_with fail
   go_ret
   exact ⟨rfl, Keep.refl _ _⟩
 · have e : wat b s i = b + (4 + (i - (4 + s))) := by have := wat_b (b := b) (s := s) (i := i - (4 + s)) (by omega); rw [show 4 + s + (i - (4 + s)) = i by omega] at this; exact this
   rw [e]
   have g1 : ((i : Int) == 0) = false := beq_eq_false_iff_ne.2 (by omega)
   have g2 : ((i : Int) == 3 + (s : Int)) = false := beq_eq_false_iff_ne.2 (by omega)
   have g3 : ((i : Int) == 1) = false := beq_eq_false_iff_ne.2 (by omega)
   have g4 : ((i : Int) == 2) = false := beq_eq_false_iff_ne.2 (by omega)
   have g5 : decide ((i : Int) < 3 + (s : Int)) = false := decide_eq_false (by omega)
   have y6 : IntKind.i64.wrap ((b : Int) + 4 + (i : Int) - 4) = (b : Int) + (i : Int) := by rw [IntWalk.i64_in _ (by omega)]; omega
   have y7 : IntKind.i64.wrap ((b : Int) + (i : Int) - (s : Int)) = ((b + (4 + (i - (4 + s))) : Nat) : Int) := by rw [IntWalk.i64_in _ (by omega)]; omega
   clear e
   generalize b + (4 + (i - (4 + s))) = z at *
   go_enter Tryz.func106, Tryz.ntmps106
   go_wp2_with fail
   go_quiet (fail)
   go_wp2_with fail
   go_ret
   exact ⟨rfl, (Keep.refl _ _).drewN nq⟩
set_option maxHeartbeats 4000000 in
theorem ref7_closed (G : List Int) (n : Nat) (hn : n = 4 + 2 * s) (hy : Blk w y 100 [i64 (b : Int), i64 (s : Int), i64 lf, .bool pk, .slice (some ⟨g, 0, none⟩) n c, i64 0, i64 an, .bool ax, i64 0, .bool en]) (hg : Ints w g G) (hgy : ¬ g = y) (hG : G.length = n) (hs : 1 ≤ s ∧ s ≤ 8) (hl : 1 ≤ lf ∧ lf ≤ 1000) :
 Calls Tryz.prog 107 #[ptr y] w fun e w' => e = .returned (.tuple #[]) ∧ Keep (fun k => k = y) w w' ∧
  Blk w' y 100 [i64 (b : Int), i64 (s : Int), i64 (lf - 1), .bool pk, .slice none 0 0, i64 0, i64 (if calmB s G = true then gsum s G 8 else if lf - 1 = 0 then rd G 2 else an), .bool (if calmB s G = true then true else if lf - 1 = 0 then false else ax), i64 0, .bool (if calmB s G = true then true else if lf - 1 = 0 then true else en)] := by
 obtain ⟨q, hq⟩ : ∃ q, q = 3 + s := ⟨_, rfl⟩
 have qy := hy.k10
 have HY := hid hy
 have HG := hid hg
 have c0 := hg.cell 0 (by omega)
 have c1 := hg.cell 1 (by omega)
 have c2 := hg.cell 2 (by omega)
 have c3 := hg.cell q (by omega)
 have zg := hg.lt
 have y1 : IntKind.i64.wrap (3 + (s : Int)) = (q : Int) := by rw [IntWalk.i64_in _ (by omega)]; omega
 have k0 : 0 < n := by omega
 have k1 : 1 < n := by omega
 have k2 : 2 < n := by omega
 have k3 : q < n := by omega
 have k1i : (1 : Int) < (n : Int) := by omega
 have k2i : (2 : Int) < (n : Int) := by omega
 have HGL := hid hG
 have HGY := hid hgy
 clear hgy
 have hcal : calmB s G = ((rd G 0 == rd G 1 && rd G 0 == rd G q) && vB s G s) := by
  rw [vB_view hs.2]; unfold calmB; rw [← hq, Bool.and_assoc]
 have HCAL := hid hcal
 have HGS := hid (gsum_8 s G hs)
 have HNQ := hid (show n = 4 + 2 * s ∧ q = 3 + s from ⟨hn, hq⟩)
 clear hy hg hG hcal hn hq
 obtain ⟨rn, hrn⟩ : ∃ v, v = (if calmB s G = true then gsum s G 8 else if lf - 1 = 0 then rd G 2 else an) := ⟨_, rfl⟩
 obtain ⟨rx, hrx⟩ : ∃ v, v = (if calmB s G = true then true else if lf - 1 = 0 then false else ax) := ⟨_, rfl⟩
 obtain ⟨re, hre⟩ : ∃ v, v = (if calmB s G = true then true else if lf - 1 = 0 then true else en) := ⟨_, rfl⟩
 rw [← hrn, ← hrx, ← hre]
 have HRES := hid (And.intro hrn (And.intro hrx hre))
 clear hrn hrx hre
 cases h0 : (rd G 0 == rd G 1)
 all_goals
  obtain ⟨b0, hb0⟩ : ∃ b0, b0 = (rd G 0 == rd G 1 && rd G 0 == rd G q) := ⟨_, rfl⟩
  have HB0 := hid hb0
  rw [h0] at hb0
  clear hb0
  rw [← HB0.out] at HCAL
  go_enter Tryz.func107, Tryz.ntmps107
  go_wp2_with fail
  go_quiet (fail)
  go_wp2_with fail
  obtain ⟨w1, hw1⟩ : ∃ v, v = w.drewN nq := ⟨_, rfl⟩
  rw [← hw1]
  have HK1 : Hid (Keep0 w w1) := hid (by rw [hw1]; exact (Keep.refl _ _).drewN nq)
  have HH0 := hid h0
  clear hw1 c0 c1 c2 c3 qy h0
  go_loopw [3, 4, 5] (fun u v x wr => ∃ i : Nat, i ≤ s ∧ u = .bool (b0 && vB s G i) ∧ v = .int .i64 (gsum s G i) ∧ x = .int .i64 (i : Int) ∧ Keep0 w1 wr) (fun _ _ x _ => s - (intOf x).toNat)
  case atStart => exact ⟨0, Nat.zero_le _, by rw [HB0.out, HH0.out]; simp [vB], rfl, rfl, Keep.refl _ _⟩
  case round =>
   obtain ⟨i, hi, rfl, rfl, rfl, hk⟩ := hrel
   have HKR := hid (HK1.out.trans hk (fun _ _ h => h))
   have HYR := hid (HKR.out.blk HY.out (fun h => h))
   have HGR := hid (HKR.out.ints HG.out (fun h => h))
   have HKL := hid hk
   have qr := HYR.out.k10
   clear hk
   by_cases hlt : i < s
   · obtain ⟨p1, hp1⟩ : ∃ p, p = 3 + i := ⟨_, rfl⟩
     obtain ⟨p2, hp2⟩ : ∃ p, p = 4 + s + i := ⟨_, rfl⟩
     have hnq := HNQ.out
     have d1 := HGR.out.cell p1 (by rw [HGL.out]; omega)
     have d2 := HGR.out.cell p2 (by rw [HGL.out]; omega)
     have zr := HGR.out.lt
     have e1 : p1 < n := by omega
     have e2 : p2 < n := by omega
     have y2 : IntKind.i64.wrap (3 + (i : Int)) = (p1 : Int) := by rw [IntWalk.i64_in _ (by omega)]; omega
     have y3 : IntKind.i64.wrap (4 + (s : Int)) = 4 + (s : Int) := IntWalk.i64_in _ (by omega)
     have y4 : IntKind.i64.wrap (4 + (s : Int) + (i : Int)) = (p2 : Int) := by rw [IntWalk.i64_in _ (by omega)]; omega
     have hvn : (b0 && vB s G (i + 1)) = (b0 && vB s G i && (rd G p1 == rd G p2)) := by rw [hp1, hp2, Bool.and_assoc]; rfl
     have HVN := hid hvn
     have hgn : gsum s G (i + 1) = wrap64 (gsum s G i + pVal (rd G p1)) := by rw [hp1]; show wrap64 (gsum s G i + pVal (vw s G 3 i)) = _; rw [show vw s G 3 i = rd G (3 + i) from by unfold vw; rw [if_pos hlt]]
     have HGN := hid hgn
     have y5 : IntKind.i64.wrap (gsum s G i + pVal (rd G p1)) = wrap64 (gsum s G i + pVal (rd G p1)) := by rw [IntKind.wrap_i64]; unfold wrap64; first | rfl | omega
     have D1 := hid d1
     clear hp1 hp2 hnq hvn hgn d1
     generalize (b0 && vB s G i) = bi at *
     generalize gsum s G i = gi at *
     cases bi
     all_goals
      have d1 := D1.out
      go_wp2_with fail
      go_quiet (fail)
      go_wp2_with fail
      refine (ref1_Value _ _).mono ?_
      rintro e w2 ⟨rfl, rfl⟩
      go_wp2_with fail
      go_roundw
      case rel => exact ⟨i + 1, by omega, by rw [HVN.out]; first | rfl | simp, by rw [HGN.out], by go_num, HKL.out.drewN nq⟩
      case measure => simp [intOf]; omega
   · obtain rfl : i = s := by omega
     have hb1 := HCAL.out
     have hres := HRES.out
     have y2 : IntKind.i64.wrap (lf - 1) = lf - 1 := IntWalk.i64_in _ (by omega)
     have d2 := HGR.out.cell 2 (by rw [HGL.out]; exact k2)
     have zr := HGR.out.lt
     rw [hb1, HGS.out] at hres
     have HRES2 := hid hres
     clear hb1 HRES HCAL hres
     generalize (b0 && vB i G i) = bi at *
     generalize gsum i G i = gi at *
     have h5 := ((HYR.out.set 2 (i64 (lf - 1))).set 4 (.slice none 0 0))
     simp only [List.set_cons_succ, List.set_cons_zero] at h5
     have HY5 := hid h5
     have HK5 := hid (((HKR.out.mono (T := fun k => k = y) (fun _ h => h.elim)).set ⟨y, 2, none⟩ (i64 (lf - 1)) (fun _ => rfl)).set ⟨y, 4, none⟩ (.slice none 0 0) (fun _ => rfl))
     have D2 := hid (((show Keep (fun k => k = y) wr _ from ((Keep.refl (fun k => k = y) wr).set ⟨y, 2, none⟩ (i64 (lf - 1)) (fun _ => rfl)).set ⟨y, 4, none⟩ (.slice none 0 0) (fun _ => rfl))).ints HGR.out (HGY.out))
     clear h5 d2 zr
     go_upto_region 10 with fail
     generalize (wr.setCell ⟨y, 2, none⟩ (i64 (lf - 1))).setCell ⟨y, 4, none⟩ (.slice none 0 0) = w5 at *
     have q5 := HY5.out.k10
     have d2 := D2.out.cell 2 (by rw [HGL.out]; exact k2)
     have zr := D2.out.lt
     have hres := HRES2.out
     clear qr HYR HGR HKR HKL HRES2
     cases bi
     · by_cases hz : lf - 1 = 0
       · have g1 : (lf - 1 == 0) = true := by simpa using hz
         simp only [Bool.false_eq_true, hz, ↓reduceIte] at hres
         obtain ⟨rfl, rfl, rfl⟩ := hres
         clear hz
         have hfin := (((((HY5.out.set 5 (i64 0)).set 6 (i64 (rd G 2))).set 7 (.bool false)).set 8 (i64 0)).set 9 (.bool true))
         simp only [List.set_cons_succ, List.set_cons_zero] at hfin
         have HF := hid hfin
         clear hfin
         go_wp2_with fail
         go_end0
         exact ⟨rfl, HK5.out.trans (show Keep (fun k => k = y) w5 _ from by repeat (with_reducible first | exact Keep.refl _ _ | refine Keep.set ?_ _ _ (fun _ => rfl))) (fun _ _ h => h), HF.out⟩
       · have g1 : (lf - 1 == 0) = false := by simpa using hz
         simp only [Bool.false_eq_true, hz, ↓reduceIte] at hres
         obtain ⟨rfl, rfl, rfl⟩ := hres
         clear hz
         have HF := HY5
         go_wp2_with fail
         go_end0
         exact ⟨rfl, HK5.out.trans (show Keep (fun k => k = y) w5 _ from by repeat (with_reducible first | exact Keep.refl _ _ | refine Keep.set ?_ _ _ (fun _ => rfl))) (fun _ _ h => h), HF.out⟩
     · rw [if_pos rfl, if_pos rfl, if_pos rfl] at hres
       obtain ⟨rfl, rfl, rfl⟩ := hres
       have hfin := (((((HY5.out.set 5 (i64 0)).set 6 (i64 rn)).set 7 (.bool true)).set 8 (i64 0)).set 9 (.bool true))
       simp only [List.set_cons_succ, List.set_cons_zero] at hfin
       have HF := hid hfin
       clear hfin
       go_wp2_with fail
       go_end0
       exact ⟨rfl, HK5.out.trans (show Keep (fun k => k = y) w5 _ from by repeat (with_reducible first | exact Keep.refl _ _ | refine Keep.set ?_ _ _ (fun _ => rfl))) (fun _ _ h => h), HF.out⟩
end
end Go.Proofs.YthaceckccobgeaaGreat


namespace Go.Proofs.YthaceckccobgeaaGreat
open Go.RowKit
set_option linter.unusedVariables false
set_option linter.unusedSimpArgs false
set_option maxRecDepth 100000
def r7cs (b s : Nat) (pk : Bool) (A : Option Addr) (c n : Nat) (t : SN) : List Value := [i64 (b : Int), i64 (s : Int), i64 t.left, .bool pk, .slice A n c, i64 0, i64 t.n, .bool t.ex, i64 0, .bool t.fin]
structure R7 (b s : Nat) (pk : Bool) (w : World) (y : Nat) (A : Option Addr) (t : SN) : Prop where
 at_ : ∃ c n, Blk w y 100 (r7cs b s pk A c n t) ∧ (t.fin = false → n = t.got.length ∧ w.ownsRow 0 3 1 (.slice A n c) n (ints t.got)) ∧ (t.fin = true → A = none)
def RS (y : Nat) (A : Option Addr) (k : Nat) : Prop := k = y ∨ (Value.slice A 0 0).ownBlock = some k
section
variable {B : Nat} {w w' : World} {m y : Nat} {A Ag : Option Addr} {ca : Nat} {lv : Value} {b s : Nat} {pk : Bool} {t : SN}
theorem R7.lt (h : R7 b s pk w y Ag t) : ∀ k, RS y Ag k → k < w.heap.size := by
 obtain ⟨c, n, h1, h2, h3⟩ := h.at_
 rintro k (rfl | hk)
 · exact h1.lt
 · cases hf : t.fin with
   | true => rw [h3 hf] at hk; simp [Value.ownBlock] at hk
   | false =>
    obtain ⟨_, ho⟩ := h2 hf
    rcases ho.2 with ⟨e, _⟩ | ⟨g, cap, cur, e, _, hg, _⟩
    · cases e; simp [Value.ownBlock] at hk
    · cases e
      have : g = k := by simpa [Value.ownBlock] using hk
      subst this
      exact (Array.getElem?_eq_some_iff.1 hg).1
theorem R7.keep {S : Nat → Prop} (h : R7 b s pk w y Ag t) (hk : Keep S w w') (hS : ∀ k, RS y Ag k → ¬ S k) : R7 b s pk w' y Ag t := by
 obtain ⟨c, n, h1, h2, h3⟩ := h.at_
 exact ⟨c, n, hk.blk h1 (hS _ (Or.inl rfl)), fun hf => ⟨(h2 hf).1, ownsRow_keep (h2 hf).2 hk (fun k hkk => hS k (Or.inr ((own_any _ _ _ _ _).trans hkk)))⟩, h3⟩
def R7P (B : Nat) (w : World) (m y : Nat) (A Ag : Option Addr) (lv : Value) (b s : Nat) (pk : Bool) (t : SN) (w' : World) : Prop :=
 ∃ A' c' lv' Ag', RefAt B w' m A' c' lv' t.W t.L ∧ R7 b s pk w' y Ag' t ∧ (∀ k, RS y Ag' k → ¬ RF m A' lv' k) ∧ Keep (fun c => (c = m ∨ lv.ownBlock = some c) ∨ c = y) w w' ∧
  (∀ c, (Value.slice A' 0 0).ownBlock = some c → (Value.slice A 0 0).ownBlock = some c ∨ w.heap.size ≤ c) ∧ (∀ c, lv'.ownBlock = some c → lv.ownBlock = some c ∨ w.heap.size ≤ c) ∧ (∀ c, (Value.slice Ag' 0 0).ownBlock = some c → (Value.slice Ag 0 0).ownBlock = some c ∨ w.heap.size ≤ c)
set_option maxHeartbeats 1000000 in
theorem r7_step_end {x3 x4 x5 x6 x7 x8 x9 : Value} (hy : Blk w y 100 [i64 (b : Int), i64 (s : Int), x3, x4, x5, x6, x7, x8, x9, .bool true]) :
 Calls Tryz.prog 77 #[ptr y, ptr m] w fun e w' => e = .returned (.bool true) ∧ w = w' := by
 have qy := hy.k10
 clear hy
 go_enter Tryz.func77, Tryz.ntmps77
 go_wp2_with fail
 go_ret
 exact ⟨rfl, rfl⟩
theorem r7_far {A2 : Option Addr} {lv2 : Value} (hR : ∀ k, RS y Ag k → ¬ RF m A lv k) (hl : ∀ k, RS y Ag k → k < w.heap.size)
 (ha : ∀ c, (Value.slice A2 0 0).ownBlock = some c → (Value.slice A 0 0).ownBlock = some c ∨ w.heap.size ≤ c) (hlv : ∀ c, lv2.ownBlock = some c → lv.ownBlock = some c ∨ w.heap.size ≤ c) : ∀ k, RS y Ag k → ¬ RF m A2 lv2 k := by
 rintro k hk (h | h | h)
 · exact hR k hk (Or.inl h)
 · rcases ha k h with h | h
   · exact hR k hk (Or.inr (Or.inl h))
   · have := hl k hk; omega
 · rcases hlv k h with h | h
   · exact hR k hk (Or.inr (Or.inr h))
   · have := hl k hk; omega
theorem r7_no (hR : ∀ k, RS y Ag k → ¬ RF m A lv k) : ∀ k, RS y Ag k → ¬ (k = m ∨ lv.ownBlock = some k) := by
 rintro k hk (h | h)
 · exact hR k hk (Or.inl h)
 · exact hR k hk (Or.inr (Or.inr h))
theorem rf_lt {W : List Int} {L : List Acc} (hm : RefAt B w m A ca lv W L) : ∀ k, RF m A lv k → k < w.heap.size := by
 rintro k (rfl | h | h)
 · exact hm.mem.lt
 · exact (hm.words.lt k ((own_any _ _ _ _ _).trans h)).2
 · exact (hm.log.lt k h).2
theorem nNext_done {vv : Int} {G : List Int} {rn : Int} {rx re : Bool} (hf : t.fin = false) (hlen : t.got.length + 1 = 4 + 2 * s) (hG : G = t.got) (hvv : vv = rd t.W (wat b s t.got.length))
 (hres : rn = (if calmB s (G ++ [vv]) = true then gsum s (G ++ [vv]) 8 else if t.left - 1 = 0 then rd (G ++ [vv]) 2 else t.n) ∧ rx = (if calmB s (G ++ [vv]) = true then true else if t.left - 1 = 0 then false else t.ex) ∧ re = (if calmB s (G ++ [vv]) = true then true else if t.left - 1 = 0 then true else false)) :
 ∃ got', nNext b s t = ⟨t.W, t.L ++ [⟨1, (wat b s t.got.length : Nat), rd t.W (wat b s t.got.length), 0, false⟩], t.left - 1, got', rn, rx, re⟩ ∧ (re = false → got' = []) := by
 obtain ⟨h1, h2, h3⟩ := hres
 have e : nNext b s t = clN s { t with L := t.L ++ [⟨1, (wat b s t.got.length : Nat), rd t.W (wat b s t.got.length), 0, false⟩] } (G ++ [vv]) := by
  unfold nNext
  rw [if_neg (by rw [hf]; decide), if_pos hlen, hG, hvv]
 rw [e]
 unfold clN
 by_cases hc : calmB s (G ++ [vv]) = true
 · rw [if_pos hc] at h1 h2 h3 ⊢
   subst h1 h2 h3
   exact ⟨_, rfl, fun h => by cases h⟩
 · rw [if_neg hc] at h1 h2 h3 ⊢
   by_cases hz : t.left - 1 = 0
   · rw [if_pos hz] at h1 h2 h3
     rw [if_pos (show ({ t with L := t.L ++ [⟨1, (wat b s t.got.length : Nat), rd t.W (wat b s t.got.length), 0, false⟩] } : SN).left - 1 = 0 from hz)]
     subst h1 h2 h3
     exact ⟨_, rfl, fun h => by cases h⟩
   · rw [if_neg hz] at h1 h2 h3
     rw [if_neg (show ¬ ({ t with L := t.L ++ [⟨1, (wat b s t.got.length : Nat), rd t.W (wat b s t.got.length), 0, false⟩] } : SN).left - 1 = 0 from hz)]
     subst h1 h2 h3
     exact ⟨[], by rw [← hf], fun _ => rfl⟩
theorem r7_fin {w1 w2 wc : World} {A2 Ag' : Option Addr} {c2 : Nat} {lv2 : Value} {W : List Int} {L : List Acc} {u : SN} (hu : u.W = W ∧ u.L = L) (hk1 : Keep0 w w1) (hm2 : RefAt B w2 m A2 c2 lv2 W L) (hk2 : Keep (fun k => k = m ∨ lv.ownBlock = some k) w1 w2)
 (hfa : ¬ RF m A2 lv2 y) (ha2 : ∀ c, (Value.slice A2 0 0).ownBlock = some c → (Value.slice A 0 0).ownBlock = some c ∨ w1.heap.size ≤ c) (hl2 : ∀ c, lv2.ownBlock = some c → lv.ownBlock = some c ∨ w1.heap.size ≤ c) (hkc : Keep (fun k => k = y) w2 wc)
 (hr : R7 b s false wc y Ag' u) (hnew : ∀ k, (Value.slice Ag' 0 0).ownBlock = some k → w2.heap.size ≤ k) : R7P B w m y A Ag lv b s false u wc := by
 obtain ⟨rfl, rfl⟩ := hu
 refine ⟨A2, c2, lv2, Ag', hm2.keep hkc (fun k h e => hfa (e ▸ h)), hr, ?_, ((hk1.mono (T := fun c => (c = m ∨ lv.ownBlock = some c) ∨ c = y) (fun _ h => h.elim)).trans hk2 (fun _ _ h => Or.inl h)).trans hkc (fun _ _ h => Or.inr h), fun c h => (ha2 c h).imp id (fun h => Nat.le_trans hk1.size h), fun c h => (hl2 c h).imp id (fun h => Nat.le_trans hk1.size h), fun c h => Or.inr (Nat.le_trans hk1.size (Nat.le_trans hk2.size (hnew c h)))⟩
 rintro k (rfl | hk) h
 · exact hfa h
 · have h1 := hnew k hk
   have h2 := rf_lt hm2 k h
   omega
set_option maxHeartbeats 4000000 in
theorem r7_count (hm : RefAt B w m A ca lv t.W t.L) (hy : R7 b s false w y Ag t) (hf : t.fin = false) (hR : ∀ k, RS y Ag k → ¬ RF m A lv k) (hi : NInv b s t) (hb : b ≤ 1000000) (hL : t.L.length ≤ 1000000000) :
 Calls Tryz.prog 77 #[ptr y, ptr m] w fun e w' => e = .returned (.bool (nNext b s t).fin) ∧ R7P B w m y A Ag lv b s false (nNext b s t) w' := by
 obtain ⟨c, n, h1, h2, _⟩ := hy.at_
 have hlt := hy.lt
 obtain ⟨hn, ho⟩ := h2 hf
 have hs8 := hi.s1
 have hlb : 1 ≤ t.left ∧ t.left ≤ 1000 := ⟨hi.lb hf, hi.lt⟩
 have hig := hi.gb hf
 have hwat := wat_bd (b := b) hs8.1 hig
 have hln := hi.ln
 have HFIN := hid hf
 subst hn
 clear hy h2 hi
 unfold r7cs at h1
 rw [hf] at h1
 have HY := hid h1
 have HO := hid ho
 have HM := hid hm
 have qy := h1.k10
 clear ho hm hf
 have hword := ref7_word (t.got.length) h1 hb hs8 hig
 have HW := hid hword
 clear hword h1
 go_enter Tryz.func77, Tryz.ntmps77
 go_wp2_with fail
 refine HW.out.mono ?_
 rintro e w1 ⟨rfl, hk1⟩
 have HM1 := hid (HM.out.keep hk1 (fun _ _ h => h))
 have HY1 := hid (hk1.blk HY.out (fun h => h))
 have HO1 := hid (ownsRow_keep HO.out hk1 (fun _ _ h => h))
 have hlt1 : ∀ k, RS y Ag k → k < w1.heap.size := fun k h => Nat.lt_of_lt_of_le (hlt k h) hk1.size
 have HK1 := hid hk1
 clear hk1 HM HY HO qy HW
 have qy1 := HY1.out.k10
 go_wp2_with fail
 refine (ref_Load ((wat b s t.got.length : Nat) : Int) HM1.out (by omega) (by omega) hL).mono ?_
 rintro e w2 ⟨rfl, A2, c2, lv2, hm2, hk2, ha2, hl2⟩
 rw [Int.toNat_natCast] at *
 have HM2 := hid hm2
 have HK2 := hid hk2
 have HY2 := hid (hk2.blk HY1.out (r7_no hR y (Or.inl rfl)))
 have HO2 := hid (ownsRow_keep HO1.out hk2 (fun k hk => r7_no hR k (Or.inr ((own_any _ _ _ _ _).trans hk))))
 have HFA := hid (r7_far hR hlt1 ha2 hl2)
 have HA2 := hid ha2
 have HL2 := hid hl2
 have qy2 := HY2.out.k10
 clear hm2 hk2 ha2 hl2 qy1 HY1 HM1 HO1
 obtain ⟨vv, hvv⟩ : ∃ v, v = rd t.W (wat b s t.got.length) := ⟨_, rfl⟩
 rw [← hvv]
 have HVV := hid hvv
 obtain ⟨i, hgi⟩ : ∃ v, v = t.got.length := ⟨_, rfl⟩
 rw [← hgi] at HO2 HY2 qy2 hig
 obtain ⟨G, hG⟩ : ∃ v, v = t.got := ⟨_, rfl⟩
 have HG := hid hG
 rw [← hG] at HO2
 have HGI := hid (show G.length = i by rw [hG, hgi])
 clear hvv hG hgi
 obtain ⟨i0, hti, hz0, hz1, hz2⟩ := info_parts info_int
 have HI := hid hti
 clear hti
 have HK8' : Keep0 w2 (w2.alloc (.cells #[] 3)) := (Keep.refl _ _).alloc _
 rcases HO2.out.2 with ⟨e, h0⟩ | ⟨g, cap, cur, e, _, hgb, _⟩
 · obtain ⟨rfl, hi0, rfl⟩ : Ag = none ∧ i = 0 ∧ c = 0 := by cases e; exact ⟨rfl, rfl, rfl⟩
   have hG0 : G = [] := List.eq_nil_of_length_eq_zero (by rw [HGI.out, hi0])
   obtain ⟨A8, hA8⟩ : ∃ A, A = some (⟨w2.heap.size, 0, none⟩ : Addr) := ⟨_, rfl⟩
   obtain ⟨c8, hc8⟩ : ∃ c : Nat, c = 0 := ⟨_, rfl⟩
   have HO8 := hid (show (w2.alloc (.cells #[] 3)).ownsRow w2.heap.size 3 1 (.slice A8 i c8) i (ints G) from by rw [hA8, hc8, hi0, hG0]; exact World.ownsRow_made w2 #[] 0 (Nat.le_refl _) (by unfold maxLen; omega) (by simp))
   have TY := hid (HY2.out.alloc (.cells #[] 3))
   have HK8 := hid HK8'
   have qy8 := TY.out.k10
   obtain ⟨gv, hgv⟩ : ∃ gv, gv = Value.slice none i 0 := ⟨_, rfl⟩
   rw [← hgv] at HY2 TY qy2 qy8
   have HGV := hid (show gv = .slice none 0 0 by rw [hgv, hi0])
   have HA8 := hid hA8
   have HC8 := hid hc8
   have HI0 := hid hi0
   clear hG0 HK8' h0 hgv qy2 hA8 hc8 hi0 e
   have qy2 := HY2.out.k10
   go_wp2_with first | (at_builtin; refine wpl_append_none rfl (.tmp 37) (.tmp 41) 22 rfl 3 i0 Tryz.underlying22 HI.out ⟨w2.heap.size, 0, none⟩ 0 0 rfl gv rfl HGV.out (Nat.le_refl _) A8 i c8 HA8.out HI0.out HC8.out ?_; clear qy2) | (at_builtin; refine wpl_append_own ?a1 (.tmp 42) (.tmp 44) 22 ?a2 (w2.heap.size) 3 i0 ?z2 1 8 ?a3 ?a4 ?a5 ?a6 ?a7 ?a8 ?a9 (.slice A8 i c8) (i) (ints G) ?a10 ?hown (⟨w2.heap.size + 1, 0, none⟩) (1) (1) ([i64 vv]) ?a11 ?a12 ?hnews ?hone ?h63 ?hby ?hbase ?_; (case a1 => rfl); (case a2 => rfl); (case a3 => exact Tryz.underlying22); (case a4 => exact HI.out); (case a5 => exact hz0); (case a6 => exact hz1); (case a7 => exact hz2); (case a8 => rfl); (case a9 => decide); (case a10 => rfl); (case a11 => rfl); (case a12 => rfl); (case hown => exact ownsRow_keep (S := fun _ => False) HO8.out ((Keep.refl _ _).alloc _) (fun _ _ h => h)); (case h63 => unfold maxLen; omega); (case hby => omega); (case hnews => exact news_at (Blk.made (by simp) rfl)); (case hone => simp [Value.oneCell']); (case hbase => have := HK8.out.size; simp; omega); intro A9 c9 w9 hown9 hg9 hsl9; have TY9 := hid (grown_blk hg9 (TY.out.alloc _) (ownBlock_ne (ownsRow_keep (S := fun _ => False) HO8.out ((Keep.refl _ _).alloc _) (fun _ _ h => h)) (TY.out.alloc (.cells #[i64 vv] 3)) (by decide))); have qy9 := TY9.out.k10; have HK9 := hid (Keep.grown (HK8.out.alloc _) hg9 (fun k hk e => by have := (HO8.out.lt k e).1; omega)); have HO9 := hid hown9; clear hown9 hg9 hsl9 qy8)
   have HK9' := HK9
   obtain ⟨g9, rfl, hgi9, hgz9⟩ := ints_own (l := G ++ [vv]) (show w9.ownsRow w2.heap.size 3 1 (.slice A9 (i + 1) c9) (i + 1) (ints (G ++ [vv])) from by simpa [ints] using HO9.out) (by omega) (by rw [List.length_append, HGI.out]; rfl)
   have HG9 := hid hgi9
   have hgy : ¬ g9 = y := fun e => by have := HY2.out.lt; omega
   have HG91 := hid (show (G ++ [vv]).length = i + 1 by rw [List.length_append, HGI.out]; rfl)
   have HO92 := hid (show w9.ownsRow 0 3 1 (.slice (some ⟨g9, 0, none⟩) (i + 1) c9) (i + 1) (ints (G ++ [vv])) from own_base7 (by simpa [ints] using HO9.out) (Nat.zero_le _))
   generalize hi1 : i + 1 = i1 at *
   have HI1 := hid hi1
   obtain ⟨wa, hwa⟩ : ∃ v, v = w9.setCell ⟨y, 4, none⟩ (.slice (some ⟨g9, 0, none⟩) i1 c9) := ⟨_, rfl⟩
   have hka : Keep (fun k => k = y) w9 wa := by rw [hwa]; exact (Keep.refl _ _).set _ _ (fun _ => rfl)
   have hya := TY9.out.set 4 (.slice (some ⟨g9, 0, none⟩) i1 c9)
   simp only [List.set_cons_succ, List.set_cons_zero] at hya
   rw [← hwa] at hya
   rw [← hwa]
   have HYA := hid hya
   have HGA := hid (hka.ints HG9.out hgy)
   have HOA := hid (ownsRow_keep HO92.out hka (fun k e => by have h9 : g9 = k := (by simpa [Value.ownBlock] using e); omega))
   have HKA := hid ((HK9.out.mono (T := fun k => k = y) (fun _ h => h.elim)).trans hka (fun _ _ h => h))
   have qya := hya.k10
   have y2 : IntKind.i64.wrap (2 * (s : Int)) = 2 * (s : Int) := IntWalk.i64_in _ (by omega)
   have y3 : IntKind.i64.wrap (4 + 2 * (s : Int)) = 4 + 2 * (s : Int) := IntWalk.i64_in _ (by omega)
   clear hwa hka hya qy9 TY9 HO9 HO8 TY HG9 HK8 HK9 HK9' hgi9 HO92 hi1
   go_quiet (fail)
   obtain ⟨wb, hwb⟩ : ∃ v, v = wa.drewN nq := ⟨_, rfl⟩
   rw [← hwb]
   have HYB := hid (show Blk wb y 100 _ from by rw [hwb]; exact HYA.out.drewN nq)
   have HGB := hid (show Ints wb g9 (G ++ [vv]) from by rw [hwb]; exact HGA.out.drewN nq)
   have HOB := hid (show wb.ownsRow 0 3 1 (.slice (some ⟨g9, 0, none⟩) i1 c9) i1 (ints (G ++ [vv])) from by rw [hwb]; exact HOA.out)
   have HKB := hid (show Keep (fun k => k = y) w2 wb from by rw [hwb]; exact HKA.out.drewN nq)
   have qyb := HYB.out.k10
   clear qya HYA HGA HOA HKA hwb
   by_cases hd : i1 = 4 + 2 * s
   · have g1 : ((i1 : Int) == 4 + 2 * (s : Int)) = true := by simp; omega
     have hcl := ref7_closed (G ++ [vv]) i1 hd HYB.out HGB.out hgy HG91.out hs8 hlb
     have HD := hid hd
     clear hd
     obtain ⟨rn, hrn⟩ : ∃ v, v = (if calmB s (G ++ [vv]) = true then gsum s (G ++ [vv]) 8 else if t.left - 1 = 0 then rd (G ++ [vv]) 2 else t.n) := ⟨_, rfl⟩
     obtain ⟨rx, hrx⟩ : ∃ v, v = (if calmB s (G ++ [vv]) = true then true else if t.left - 1 = 0 then false else t.ex) := ⟨_, rfl⟩
     obtain ⟨re, hre⟩ : ∃ v, v = (if calmB s (G ++ [vv]) = true then true else if t.left - 1 = 0 then true else false) := ⟨_, rfl⟩
     rw [← hrn, ← hrx, ← hre] at hcl
     have HR3 := hid (And.intro hrn (And.intro hrx hre))
     have HCL := hid hcl
     clear hrn hrx hre hcl
     go_wp2_with fail
     refine HCL.out.mono ?_
     rintro e wc ⟨rfl, hkc, hyc⟩
     have HYC := hid hyc
     have HKC := hid (HKB.out.trans hkc (fun _ _ h => h))
     have qyc := hyc.k10
     clear hkc hyc qyb HCL
     go_wp2_with fail
     go_ret
     obtain ⟨got', e1, e2⟩ := nNext_done (b := b) HFIN.out (by have h1 := HD.out; have h2 := HI1.out; have h3 := HGI.out; rw [HG.out] at h3; omega) HG.out HVV.out HR3.out
     rw [e1]
     exact ⟨rfl, r7_fin (Ag' := none) ⟨rfl, rfl⟩ HK1.out HM2.out HK2.out (HFA.out y (Or.inl rfl)) HA2.out HL2.out HKC.out ⟨⟨0, 0, HYC.out, fun h => by rw [e2 h]; exact ⟨rfl, World.ownsRow_nil _ _ _ _⟩, fun _ => rfl⟩⟩ (fun k h => by simp [Value.ownBlock] at h)⟩
   · have g1 : ((i1 : Int) == 4 + 2 * (s : Int)) = false := beq_eq_false_iff_ne.2 (by omega)
     have HD := hid hd
     clear hd
     go_wp2_with fail
     go_ret
     have e1 : nNext b s t = { t with L := t.L ++ [⟨1, (wat b s t.got.length : Nat), rd t.W (wat b s t.got.length), 0, false⟩], got := G ++ [vv] } := by
      unfold nNext
      rw [if_neg (by rw [HFIN.out]; decide), if_neg (by have h1 := HD.out; have h2 := HI1.out; have h3 := HGI.out; rw [HG.out] at h3; omega), HG.out, HVV.out]
     rw [e1]
     exact ⟨congrArg (fun b => Ending.returned (Value.bool b)) HFIN.out.symm, r7_fin (Ag' := some ⟨g9, 0, none⟩) ⟨rfl, rfl⟩ HK1.out HM2.out HK2.out (HFA.out y (Or.inl rfl)) HA2.out HL2.out HKB.out ⟨⟨c9, i1, by unfold r7cs; rw [show ({ t with L := t.L ++ [⟨1, (wat b s t.got.length : Nat), rd t.W (wat b s t.got.length), 0, false⟩], got := G ++ [vv] } : SN).fin = false from HFIN.out]; exact HYB.out, fun _ => ⟨HG91.out.symm, HOB.out⟩, fun h => by rw [show ({ t with L := t.L ++ [⟨1, (wat b s t.got.length : Nat), rd t.W (wat b s t.got.length), 0, false⟩], got := G ++ [vv] } : SN).fin = false from HFIN.out] at h; cases h⟩⟩ (fun k h => by have h9 : g9 = k := (by simpa [Value.ownBlock] using h); omega)⟩
 · cases e
   have hce := HO2.out.cells (g := g) rfl
   have HCE := hid hce
   clear hce hgb
   have hi9 : i ≤ 1000 := by omega
   obtain ⟨cg, hcg⟩ : ∃ cg, cg = c := ⟨_, rfl⟩
   subst hcg
   go_wp2_with first | (at_builtin; refine wpl_append_own ?a1 (.tmp 37) (.tmp 41) 22 ?a2 (w2.heap.size) 3 i0 ?z 1 8 ?a3 ?a4 ?a5 ?a6 ?a7 ?a8 ?a9 (.slice (some ⟨w2.heap.size, 0, none⟩) 0 0) (0) ([]) ?a10 ?hown (⟨g, 0, none⟩) (i) (cg) (ints G) ?a11 ?a12 ?hnews ?hone ?h63 ?hby ?hbase ?_; (case a1 => rfl); (case a2 => rfl); (case a3 => exact Tryz.underlying22); (case a4 => exact HI.out); (case a5 => exact hz0); (case a6 => exact hz1); (case a7 => exact hz2); (case a8 => rfl); (case a9 => decide); (case a10 => rfl); (case a11 => rfl); (case a12 => have h := HGI.out; simp [ints, h]); (case hown => exact World.ownsRow_made w2 #[] 0 (Nat.le_refl _) (by unfold maxLen; omega) (by simp)); (case h63 => unfold maxLen; omega); (case hby => omega); (case hnews => intro j u hj; have hc := HCE.out j u hj; rw [World.cell?_alloc_lt _ _ _ (World.block_lt_of_cell? _ _ hc)]; exact hc); (case hone => exact ints_one G); (case hbase => simp); intro A8 c8 w8 hown8 hg8 hsl8; have TY := hid (grown_blk hg8 (HY2.out.alloc (.cells #[] 3)) (by have := HY2.out.lt; simp [Value.ownBlock]; omega)); have qy8 := TY.out.k10; have HG8 := hid hg8; have HO8 := hid (show w8.ownsRow w2.heap.size 3 1 (.slice A8 i c8) i (ints G) from by simpa using hown8); have HK8 := hid (Keep.grown HK8' HG8.out (fun k hk e => by simp [Value.ownBlock] at e; omega)); clear hown8 hg8 hsl8 qy2) | (at_builtin; refine wpl_append_own ?a1 (.tmp 42) (.tmp 44) 22 ?a2 (w2.heap.size) 3 i0 ?z3 1 8 ?a3 ?a4 ?a5 ?a6 ?a7 ?a8 ?a9 (.slice A8 i c8) (i) (ints G) ?a10 ?hown (⟨w8.heap.size, 0, none⟩) (1) (1) ([i64 vv]) ?a11 ?a12 ?hnews ?hone ?h63 ?hby ?hbase ?_; (case a1 => rfl); (case a2 => rfl); (case a3 => exact Tryz.underlying22); (case a4 => exact HI.out); (case a5 => exact hz0); (case a6 => exact hz1); (case a7 => exact hz2); (case a8 => rfl); (case a9 => decide); (case a10 => rfl); (case a11 => rfl); (case a12 => rfl); (case hown => exact ownsRow_keep (S := fun _ => False) HO8.out ((Keep.refl _ _).alloc _) (fun _ _ h => h)); (case h63 => unfold maxLen; omega); (case hby => omega); (case hnews => exact news_at (Blk.made (by simp) rfl)); (case hone => simp [Value.oneCell']); (case hbase => have := HK8.out.size; simp; omega); intro A9 c9 w9 hown9 hg9 hsl9; have TY9 := hid (grown_blk hg9 (TY.out.alloc _) (ownBlock_ne (ownsRow_keep (S := fun _ => False) HO8.out ((Keep.refl _ _).alloc _) (fun _ _ h => h)) (TY.out.alloc (.cells #[i64 vv] 3)) (by decide))); have qy9 := TY9.out.k10; have HK9 := hid (Keep.grown (HK8.out.alloc _) hg9 (fun k hk e => by have := (HO8.out.lt k e).1; omega)); have HO9 := hid hown9; clear hown9 hg9 hsl9 qy8)
   have HK9' := HK9
   obtain ⟨g9, rfl, hgi9, hgz9⟩ := ints_own (l := G ++ [vv]) (show w9.ownsRow w2.heap.size 3 1 (.slice A9 (i + 1) c9) (i + 1) (ints (G ++ [vv])) from by simpa [ints] using HO9.out) (by omega) (by rw [List.length_append, HGI.out]; rfl)
   have HG9 := hid hgi9
   have hgy : ¬ g9 = y := fun e => by have := HY2.out.lt; omega
   have HG91 := hid (show (G ++ [vv]).length = i + 1 by rw [List.length_append, HGI.out]; rfl)
   have HO92 := hid (show w9.ownsRow 0 3 1 (.slice (some ⟨g9, 0, none⟩) (i + 1) c9) (i + 1) (ints (G ++ [vv])) from own_base7 (by simpa [ints] using HO9.out) (Nat.zero_le _))
   generalize hi1 : i + 1 = i1 at *
   have HI1 := hid hi1
   obtain ⟨wa, hwa⟩ : ∃ v, v = w9.setCell ⟨y, 4, none⟩ (.slice (some ⟨g9, 0, none⟩) i1 c9) := ⟨_, rfl⟩
   have hka : Keep (fun k => k = y) w9 wa := by rw [hwa]; exact (Keep.refl _ _).set _ _ (fun _ => rfl)
   have hya := TY9.out.set 4 (.slice (some ⟨g9, 0, none⟩) i1 c9)
   simp only [List.set_cons_succ, List.set_cons_zero] at hya
   rw [← hwa] at hya
   rw [← hwa]
   have HYA := hid hya
   have HGA := hid (hka.ints HG9.out hgy)
   have HOA := hid (ownsRow_keep HO92.out hka (fun k e => by have h9 : g9 = k := (by simpa [Value.ownBlock] using e); omega))
   have HKA := hid ((HK9.out.mono (T := fun k => k = y) (fun _ h => h.elim)).trans hka (fun _ _ h => h))
   have qya := hya.k10
   have y2 : IntKind.i64.wrap (2 * (s : Int)) = 2 * (s : Int) := IntWalk.i64_in _ (by omega)
   have y3 : IntKind.i64.wrap (4 + 2 * (s : Int)) = 4 + 2 * (s : Int) := IntWalk.i64_in _ (by omega)
   clear hwa hka hya qy9 TY9 HO9 HO8 TY HG9 HK8 HK9 HK9' hgi9 HO92 hi1
   go_quiet (fail)
   obtain ⟨wb, hwb⟩ : ∃ v, v = wa.drewN nq := ⟨_, rfl⟩
   rw [← hwb]
   have HYB := hid (show Blk wb y 100 _ from by rw [hwb]; exact HYA.out.drewN nq)
   have HGB := hid (show Ints wb g9 (G ++ [vv]) from by rw [hwb]; exact HGA.out.drewN nq)
   have HOB := hid (show wb.ownsRow 0 3 1 (.slice (some ⟨g9, 0, none⟩) i1 c9) i1 (ints (G ++ [vv])) from by rw [hwb]; exact HOA.out)
   have HKB := hid (show Keep (fun k => k = y) w2 wb from by rw [hwb]; exact HKA.out.drewN nq)
   have qyb := HYB.out.k10
   clear qya HYA HGA HOA HKA hwb
   by_cases hd : i1 = 4 + 2 * s
   · have g1 : ((i1 : Int) == 4 + 2 * (s : Int)) = true := by simp; omega
     have hcl := ref7_closed (G ++ [vv]) i1 hd HYB.out HGB.out hgy HG91.out hs8 hlb
     have HD := hid hd
     clear hd
     obtain ⟨rn, hrn⟩ : ∃ v, v = (if calmB s (G ++ [vv]) = true then gsum s (G ++ [vv]) 8 else if t.left - 1 = 0 then rd (G ++ [vv]) 2 else t.n) := ⟨_, rfl⟩
     obtain ⟨rx, hrx⟩ : ∃ v, v = (if calmB s (G ++ [vv]) = true then true else if t.left - 1 = 0 then false else t.ex) := ⟨_, rfl⟩
     obtain ⟨re, hre⟩ : ∃ v, v = (if calmB s (G ++ [vv]) = true then true else if t.left - 1 = 0 then true else false) := ⟨_, rfl⟩
     rw [← hrn, ← hrx, ← hre] at hcl
     have HR3 := hid (And.intro hrn (And.intro hrx hre))
     have HCL := hid hcl
     clear hrn hrx hre hcl
     go_wp2_with fail
     refine HCL.out.mono ?_
     rintro e wc ⟨rfl, hkc, hyc⟩
     have HYC := hid hyc
     have HKC := hid (HKB.out.trans hkc (fun _ _ h => h))
     have qyc := hyc.k10
     clear hkc hyc qyb HCL
     go_wp2_with fail
     go_ret
     obtain ⟨got', e1, e2⟩ := nNext_done (b := b) HFIN.out (by have h1 := HD.out; have h2 := HI1.out; have h3 := HGI.out; rw [HG.out] at h3; omega) HG.out HVV.out HR3.out
     rw [e1]
     exact ⟨rfl, r7_fin (Ag' := none) ⟨rfl, rfl⟩ HK1.out HM2.out HK2.out (HFA.out y (Or.inl rfl)) HA2.out HL2.out HKC.out ⟨⟨0, 0, HYC.out, fun h => by rw [e2 h]; exact ⟨rfl, World.ownsRow_nil _ _ _ _⟩, fun _ => rfl⟩⟩ (fun k h => by simp [Value.ownBlock] at h)⟩
   · have g1 : ((i1 : Int) == 4 + 2 * (s : Int)) = false := beq_eq_false_iff_ne.2 (by omega)
     have HD := hid hd
     clear hd
     go_wp2_with fail
     go_ret
     have e1 : nNext b s t = { t with L := t.L ++ [⟨1, (wat b s t.got.length : Nat), rd t.W (wat b s t.got.length), 0, false⟩], got := G ++ [vv] } := by
      unfold nNext
      rw [if_neg (by rw [HFIN.out]; decide), if_neg (by have h1 := HD.out; have h2 := HI1.out; have h3 := HGI.out; rw [HG.out] at h3; omega), HG.out, HVV.out]
     rw [e1]
     exact ⟨congrArg (fun b => Ending.returned (Value.bool b)) HFIN.out.symm, r7_fin (Ag' := some ⟨g9, 0, none⟩) ⟨rfl, rfl⟩ HK1.out HM2.out HK2.out (HFA.out y (Or.inl rfl)) HA2.out HL2.out HKB.out ⟨⟨c9, i1, by unfold r7cs; rw [show ({ t with L := t.L ++ [⟨1, (wat b s t.got.length : Nat), rd t.W (wat b s t.got.length), 0, false⟩], got := G ++ [vv] } : SN).fin = false from HFIN.out]; exact HYB.out, fun _ => ⟨HG91.out.symm, HOB.out⟩, fun h => by rw [show ({ t with L := t.L ++ [⟨1, (wat b s t.got.length : Nat), rd t.W (wat b s t.got.length), 0, false⟩], got := G ++ [vv] } : SN).fin = false from HFIN.out] at h; cases h⟩⟩ (fun k h => by have h9 : g9 = k := (by simpa [Value.ownBlock] using h); omega)⟩
end
end Go.Proofs.YthaceckccobgeaaGreat


namespace Go.Proofs.YthaceckccobgeaaGreat
open Go.RowKit
set_option linter.unusedVariables false
set_option linter.unusedSimpArgs false
set_option maxRecDepth 100000
section
variable {τ : Type}
set_option maxHeartbeats 4000000 in
theorem ref7_Play (Sys : Nat → World → τ → Prop) (stp : τ → τ × Bool) (pk : τ → Nat → Int → τ) (len : Nat) (y : Nat) (m : Nat) (S0 : Nat → Prop) (N : Nat) (l : List Pk) (A0 : Option Addr) (b o c : Nat) (most : Nat) (w : World) (t : τ)
 (hmost : most ≤ 1000000) (hl : l.length ≤ 1000000) (hlen : len ≤ 1000000) (hN : N ≤ w.heap.size) (hA0 : 0 < l.length → A0 = some ⟨b, o, none⟩ ∧ b < N ∧ ¬ S0 b)
 (hcells : ∀ i (h : i < l.length), w.cell? ⟨b, o + i * 3, none⟩ = some (i64 l[i].at_) ∧ w.cell? ⟨b, o + i * 3 + 1, none⟩ = some (i64 l[i].w) ∧ w.cell? ⟨b, o + i * 3 + 2, none⟩ = some (i64 l[i].x))
 (hmem : ∀ n w t, Sys n w t → ∃ A c lv, Blk w m 42 [.slice A len c, lv])
 (hkeep : ∀ n w w' t, Sys n w t → Keep (fun _ => False) w w' → Sys n w' t)
 (hpoke : ∀ n w t (i x : Int), (∃ p ∈ l, p.w = i ∧ p.x = x) → Sys n w t → 0 ≤ i → i < len → Calls Tryz.prog 76 #[ptr m, i64 i, i64 x] w fun e w' => e = .returned (.tuple #[]) ∧ Sys n w' (pk t i.toNat x) ∧ Keep (fun k => S0 k ∨ N ≤ k) w w')
 (hstep : ∀ n w t, n < most → Sys n w t → Calls Tryz.prog 77 #[ptr y, ptr m] w fun e w' => e = .returned (.bool (stp t).2) ∧ Sys (n + 1) w' (stp t).1 ∧ Keep (fun k => S0 k ∨ N ≤ k) w w')
 (hs : Sys 0 w t) :
 Calls Tryz.prog 29 #[ptr m, ptr y, .slice A0 l.length c, i64 most] w fun e w' =>
  e = .returned (.tuple #[i64 (playF stp pk len l most 0 t).2.1, .bool (playF stp pk len l most 0 t).2.2]) ∧ (∃ n, Sys n w' (playF stp pk len l most 0 t).1) ∧ Keep (fun k => S0 k ∨ N ≤ k) w w' := by
 go_enter Tryz.func29, Tryz.ntmps29
 go_wp2_with fail
 go_loopw [10] (fun v wr => ∃ n : Nat, n ≤ most ∧ v = .int .i64 n ∧ ∃ t', Sys n wr t' ∧ playF stp pk len l (most - n) n t' = playF stp pk len l most 0 t ∧ Keep (fun k => S0 k ∨ N ≤ k) w wr) (fun v _ => most - (intOf v).toNat)
 case atStart => exact ⟨0, Nat.zero_le _, rfl, t, hs, rfl, Keep.refl _ _⟩
 case round =>
  obtain ⟨n, hn, rfl, t', hs', hpl, hk⟩ := hrel
  have HPL := hid hpl
  have HS' := hid hs'
  have HK := hid hk
  clear hpl hs' hk hs
  by_cases hlt : n < most
  · go_wp2_with fail
    obtain ⟨wo, rfl⟩ : ∃ wo : World, wo = wr := ⟨_, rfl⟩
    go_loopw [11] (fun v wi => ∃ j : Nat, j ≤ l.length ∧ v = .int .i64 j ∧ Sys n wi (pokeAll pk len n (l.take j) t') ∧ Keep (fun k => S0 k ∨ N ≤ k) wo wi) (fun v _ => l.length - (intOf v).toNat)
    case atStart => exact ⟨0, Nat.zero_le _, rfl, HS'.out, Keep.refl _ _⟩
    case round =>
     obtain ⟨j, hj, rfl, hsj, hkj⟩ := hrel
     have HSJ := hid hsj
     have HKJ := hid hkj
     clear hsj hkj
     by_cases hjl : j < l.length
     · obtain ⟨rfl, hb, hbS⟩ := hA0 (by omega)
       have hbw : b < wo.heap.size := Nat.lt_of_lt_of_le hb (Nat.le_trans hN HK.out.size)
       have hbS' : ¬ (S0 b ∨ N ≤ b) := fun h => h.elim hbS (by omega)
       obtain ⟨a1, a2, a3⟩ := hcells j hjl
       rw [← cell_old HK.out (Nat.lt_of_lt_of_le hb hN) hbS'] at a1 a2 a3
       have hnext : pokeAll pk len n (l.take (j + 1)) t' = if l[j].at_ = n ∧ 0 ≤ l[j].w ∧ l[j].w < (len : Int) then pk (pokeAll pk len n (l.take j) t') l[j].w.toNat l[j].x else pokeAll pk len n (l.take j) t' := by
        exact pokeAll_snoc pk len n l j hjl t'
       have hinl : ∃ p ∈ l, p.w = l[j].w ∧ p.x = l[j].x := ⟨l[j], List.getElem_mem hjl, rfl, rfl⟩
       have HIN := hid hinl
       clear hinl
       generalize l[j].at_ = pa at *
       generalize l[j].w = pw at *
       generalize l[j].x = px at *
       have HN := hid hnext
       clear hnext
       have HCL := hid (fun (wx : World) (hk : Keep (fun k => S0 k ∨ N ≤ k) wo wx) => (⟨(cell_old hk hbw hbS' _).trans a1, (cell_old hk hbw hbS' _).trans a2, (cell_old hk hbw hbS' _).trans a3, Nat.lt_of_lt_of_le hbw hk.size⟩ : wx.cell? ⟨b, o + j * 3, none⟩ = some (i64 pa) ∧ wx.cell? ⟨b, o + j * 3 + 1, none⟩ = some (i64 pw) ∧ wx.cell? ⟨b, o + j * 3 + 2, none⟩ = some (i64 px) ∧ b < wx.heap.size))
       obtain ⟨mA, mc, mlv, hmb⟩ := hmem _ _ _ HSJ.out
       have HMB := hid hmb
       clear hmb a1 a2 a3
       by_cases hA : pa = n
       · have g1 : (pa == (n : Int)) = true := by simpa using hA
         have HA := hid hA
         clear hA
         by_cases hB : 0 ≤ pw
         · have g2 : decide (0 ≤ pw) = true := by simpa using hB
           by_cases hC : pw < (len : Int)
           · have g3 : decide (pw < (len : Int)) = true := by simpa using hC
             go_wp2_with fail
             apply wp_region_text (WI := fun S wx => Keep0 wr wx) (by kernel_rfl) (by kernel_rfl)
             case hob =>
              iterate 28
               apply Oblig.cons
               case h =>
                intro S w1 hwi hSi hd hcl
                apply StepOk.intro
                intro K hK
                obtain ⟨a1, a2, a3, hbz⟩ := HCL.out _ (HKJ.out.trans (hwi.mono (T := fun k => S0 k ∨ N ≤ k) (fun _ h => h.elim)) (fun _ _ h => h))
                have qm := (hwi.blk HMB.out (fun h => h)).k2
                go_simp
                apply hK
                · rfl
                · conv => (lhs; whnf)
                · exact hwi
               simp only [put_lit, put_none]
               try dsimp only [List.set_cons_succ, List.set_cons_zero]
              exact Oblig.nil
             case h0 =>
              exact (Keep.refl _ _).drew
             case hend =>
              intro S wx hwi hall
              have HKX := hid (HKJ.out.trans (hwi.mono (T := fun k => S0 k ∨ N ≤ k) (fun _ h => h.elim)) (fun _ _ h => h))
              have HSX := hid (hkeep _ _ _ _ HSJ.out hwi)
              obtain ⟨wy, rfl⟩ : ∃ wy : World, wy = wx := ⟨_, rfl⟩
              clear hwi hall
              go_wp2_with fail
              apply wp_region_text (WI := fun S wx => Keep (fun k => S0 k ∨ N ≤ k) wo wx ∧ (S 11 = false → Sys n wx (pokeAll pk len n (l.take j) t')) ∧ (S 11 = true → Sys n wx (pk (pokeAll pk len n (l.take j) t') pw.toNat px))) (by kernel_rfl) (by kernel_rfl)
              case hob =>
               iterate 11
                apply Oblig.cons
                case h =>
                 intro S w1 hwi hSi hd hcl
                 apply StepOk.intro
                 intro K hK
                 obtain ⟨a1, a2, a3, hbz⟩ := HCL.out _ hwi.1
                 go_simp
                 apply hK
                 · rfl
                 · conv => (lhs; whnf)
                 · exact hwi
                simp only [put_lit, put_none]
                try dsimp only [List.set_cons_succ, List.set_cons_zero]
               apply Oblig.cons
               case h =>
                intro S w1 hwi hSi hd hcl
                apply StepOk.intro
                intro K hK
                obtain ⟨a1, a2, a3, hbz⟩ := HCL.out _ hwi.1
                go_simp
                refine (hpoke n _ _ pw px HIN.out (hwi.2.1 hSi) hB hC).mono ?_
                rintro e w2 ⟨rfl, hs2, hk2⟩
                apply hK
                · rfl
                · conv => (lhs; whnf)
                · exact ⟨hwi.1.trans hk2 (fun _ _ h => h), fun h => by simp [upd] at h, fun _ => hs2⟩
               simp only [put_lit, put_none]
               try dsimp only [List.set_cons_succ, List.set_cons_zero]
               exact Oblig.nil
              case h0 =>
               exact ⟨HKX.out.drew, fun _ => hkeep _ _ _ _ HSX.out (Keep.refl (fun _ => False) _).drew, fun h => by cases h⟩
              case hend =>
               intro S wx hwi hall
               have HSZ := hid (hwi.2.2 (hall 11 (by decide)))
               have HKZ := hid hwi.1
               clear hwi hall
               go_wp2_with fail
               go_roundw
               case rel => exact ⟨j + 1, by omega, by go_num, by rw [HN.out, if_pos ⟨HA.out, hB, hC⟩]; exact HSZ.out, HKZ.out⟩
               case measure => simp [intOf]; omega
           · have g3 : decide (pw < (len : Int)) = false := by simpa using hC
             have HNN := hid (fun h : pa = n ∧ 0 ≤ pw ∧ pw < (len : Int) => hC h.2.2)
             go_wp2_with fail
             apply wp_region_text (WI := fun S wx => Keep0 wr wx) (by kernel_rfl) (by kernel_rfl)
             case hob =>
              iterate 28
               apply Oblig.cons
               case h =>
                intro S w1 hwi hSi hd hcl
                apply StepOk.intro
                intro K hK
                obtain ⟨a1, a2, a3, hbz⟩ := HCL.out _ (HKJ.out.trans (hwi.mono (T := fun k => S0 k ∨ N ≤ k) (fun _ h => h.elim)) (fun _ _ h => h))
                have qm := (hwi.blk HMB.out (fun h => h)).k2
                go_simp
                apply hK
                · rfl
                · conv => (lhs; whnf)
                · exact hwi
               simp only [put_lit, put_none]
               try dsimp only [List.set_cons_succ, List.set_cons_zero]
              exact Oblig.nil
             case h0 =>
              exact (Keep.refl _ _).drew
             case hend =>
              intro S wx hwi hall
              have HKX := hid (HKJ.out.trans (hwi.mono (T := fun k => S0 k ∨ N ≤ k) (fun _ h => h.elim)) (fun _ _ h => h))
              have HSX := hid (hkeep _ _ _ _ HSJ.out hwi)
              obtain ⟨wy, rfl⟩ : ∃ wy : World, wy = wx := ⟨_, rfl⟩
              clear hwi hall
              go_wp2_with fail
              go_roundw
              case rel => exact ⟨j + 1, by omega, by go_num, by rw [HN.out, if_neg HNN.out]; exact HSX.out, HKX.out⟩
              case measure => simp [intOf]; omega
         · have g2 : decide (0 ≤ pw) = false := by simpa using hB
           have HNN := hid (fun h : pa = n ∧ 0 ≤ pw ∧ pw < (len : Int) => hB h.2.1)
           go_wp2_with fail
           apply wp_region_text (WI := fun S wx => Keep0 wr wx) (by kernel_rfl) (by kernel_rfl)
           case hob =>
            iterate 28
             apply Oblig.cons
             case h =>
              intro S w1 hwi hSi hd hcl
              apply StepOk.intro
              intro K hK
              obtain ⟨a1, a2, a3, hbz⟩ := HCL.out _ (HKJ.out.trans (hwi.mono (T := fun k => S0 k ∨ N ≤ k) (fun _ h => h.elim)) (fun _ _ h => h))
              have qm := (hwi.blk HMB.out (fun h => h)).k2
              go_simp
              apply hK
              · rfl
              · conv => (lhs; whnf)
              · exact hwi
             simp only [put_lit, put_none]
             try dsimp only [List.set_cons_succ, List.set_cons_zero]
            exact Oblig.nil
           case h0 =>
            exact (Keep.refl _ _).drew
           case hend =>
            intro S wx hwi hall
            have HKX := hid (HKJ.out.trans (hwi.mono (T := fun k => S0 k ∨ N ≤ k) (fun _ h => h.elim)) (fun _ _ h => h))
            have HSX := hid (hkeep _ _ _ _ HSJ.out hwi)
            obtain ⟨wy, rfl⟩ : ∃ wy : World, wy = wx := ⟨_, rfl⟩
            clear hwi hall
            go_wp2_with fail
            go_roundw
            case rel => exact ⟨j + 1, by omega, by go_num, by rw [HN.out, if_neg HNN.out]; exact HSX.out, HKX.out⟩
            case measure => simp [intOf]; omega
       · have g1 : (pa == (n : Int)) = false := by simpa using hA
         have HNN := hid (fun h : pa = n ∧ 0 ≤ pw ∧ pw < (len : Int) => hA h.1)
         go_wp2_with fail
         apply wp_region_text (WI := fun S wx => Keep0 wr wx) (by kernel_rfl) (by kernel_rfl)
         case hob =>
          iterate 28
           apply Oblig.cons
           case h =>
            intro S w1 hwi hSi hd hcl
            apply StepOk.intro
            intro K hK
            obtain ⟨a1, a2, a3, hbz⟩ := HCL.out _ (HKJ.out.trans (hwi.mono (T := fun k => S0 k ∨ N ≤ k) (fun _ h => h.elim)) (fun _ _ h => h))
            have qm := (hwi.blk HMB.out (fun h => h)).k2
            go_simp
            apply hK
            · rfl
            · conv => (lhs; whnf)
            · exact hwi
           simp only [put_lit, put_none]
           try dsimp only [List.set_cons_succ, List.set_cons_zero]
          exact Oblig.nil
         case h0 =>
          exact (Keep.refl _ _).drew
         case hend =>
          intro S wx hwi hall
          have HKX := hid (HKJ.out.trans (hwi.mono (T := fun k => S0 k ∨ N ≤ k) (fun _ h => h.elim)) (fun _ _ h => h))
          have HSX := hid (hkeep _ _ _ _ HSJ.out hwi)
          obtain ⟨wy, rfl⟩ : ∃ wy : World, wy = wx := ⟨_, rfl⟩
          clear hwi hall
          go_wp2_with fail
          go_roundw
          case rel => exact ⟨j + 1, by omega, by go_num, by rw [HN.out, if_neg HNN.out]; exact HSX.out, HKX.out⟩
          case measure => simp [intOf]; omega
     · have hst := HSJ.out
       rw [List.take_of_length_le (by omega)] at hst
       have hpl : playF stp pk len l (most - n) n t' = (if (stp (pokeAll pk len n l t')).2 then ((stp (pokeAll pk len n l t')).1, n + 1, true) else playF stp pk len l (most - (n + 1)) (n + 1) (stp (pokeAll pk len n l t')).1) := by
        rw [show most - n = (most - (n + 1)) + 1 from by omega]; rfl
       have HP2 := hid hpl
       have HST := hid hst
       clear hpl hst
       cases hb2 : (stp (pokeAll pk len n l t')).2
       all_goals
        have HB2 := hid hb2
        clear hb2
        go_wp2_with fail
        refine (hstep n _ _ hlt HST.out).mono ?_
        rintro e w1 ⟨rfl, hs1, hk2⟩
        rw [HB2.out]
        have HS1 := hid hs1
        have HK1 := hid hk2
        clear hs1 hk2
        go_wp2_with fail
       · go_roundw
         case rel => exact ⟨n + 1, by omega, by go_num, _, HS1.out, by rw [← HPL.out, HP2.out, HB2.out]; rfl, (HK.out.trans HKJ.out (fun _ _ h => h)).trans HK1.out (fun _ _ h => h)⟩
         case measure => simp [intOf]; omega
       · have hfin : playF stp pk len l most 0 t = ((stp (pokeAll pk len n l t')).1, n + 1, true) := by rw [← HPL.out, HP2.out, HB2.out]; rfl
         have HF := hid hfin
         clear hfin
         go_ret2
         rw [HF.out]
         exact ⟨by go_num, ⟨_, HS1.out⟩, (HK.out.trans HKJ.out (fun _ _ h => h)).trans HK1.out (fun _ _ h => h)⟩
  · have hnm : n = most := by omega
    have hfin : playF stp pk len l most 0 t = (t', most, false) := by rw [← HPL.out, hnm, Nat.sub_self]; rfl
    have HF := hid hfin
    clear hfin hnm
    go_wp2_with fail
    go_ret2
    rw [HF.out]
    exact ⟨rfl, ⟨_, HS'.out⟩, HK.out⟩
end
end Go.Proofs.YthaceckccobgeaaGreat


namespace Go.Proofs.YthaceckccobgeaaGreat
open Go.RowKit
set_option linter.unusedVariables false
set_option linter.unusedSimpArgs false
set_option maxRecDepth 100000
section
variable {B : Nat} {w : World} {m y : Nat} {A Ag : Option Addr} {ca : Nat} {lv : Value} {b s : Nat}
theorem r7_over {pk : Bool} (t : SN) (hm : RefAt B w m A ca lv t.W t.L) (hy : R7 b s pk w y Ag t) (hR : ∀ k, RS y Ag k → ¬ RF m A lv k) (hf : t.fin = true) :
 Calls Tryz.prog 77 #[ptr y, ptr m] w fun e w' => e = .returned (.bool true) ∧ R7P B w m y A Ag lv b s pk t w' := by
 obtain ⟨c, n, h1, _, _⟩ := hy.at_
 have h2 := h1
 unfold r7cs at h2
 rw [hf] at h2
 refine (r7_step_end (m := m) h2).mono ?_
 rintro e w' ⟨rfl, rfl⟩
 exact ⟨rfl, A, ca, lv, Ag, hm, hy, hR, Keep.refl _ _, fun _ h => Or.inl h, fun _ h => Or.inl h, fun _ h => Or.inl h⟩
theorem r7_Count_Step (t : SN) (hm : RefAt B w m A ca lv t.W t.L) (hy : R7 b s false w y Ag t) (hR : ∀ k, RS y Ag k → ¬ RF m A lv k) (hi : NInv b s t) (hb : b ≤ 1000000) (hL : t.L.length ≤ 1000000000) :
 Calls Tryz.prog 77 #[ptr y, ptr m] w fun e w' => e = .returned (.bool (nStp b s t).2) ∧ R7P B w m y A Ag lv b s false (nStp b s t).1 w' := by
 show Calls _ _ _ _ (fun e w' => e = .returned (.bool (nNext b s t).fin) ∧ R7P B w m y A Ag lv b s false (nNext b s t) w')
 cases hf : t.fin with
 | false => exact r7_count hm hy hf hR hi hb hL
 | true =>
  rw [nNext_over hf, hf]
  exact r7_over t hm hy hR hf
set_option maxHeartbeats 400000 in
theorem r7_Ans {pk : Bool} (t : SN) (hy : R7 b s pk w y Ag t) : Calls Tryz.prog 31 #[ptr y] w (Ret (.agg #[i64 0, i64 t.n, .bool t.ex, i64 0]) w) := by
 obtain ⟨c, n, h1, _, _⟩ := hy.at_
 have qy := (show Blk w y 100 [i64 (b : Int), i64 (s : Int), i64 t.left, .bool pk, .slice Ag n c, i64 0, i64 t.n, .bool t.ex, i64 0, .bool t.fin] from h1).k10
 clear h1 hy
 go_enter Tryz.func31, Tryz.ntmps31
 go_wp2
 exact bodyPost_ret (v := .agg #[i64 0, i64 t.n, .bool t.ex, i64 0]) (by simp [results, Tryz.results31, go_sem]) rfl ⟨rfl, (Keep.refl _ _).alloc _⟩
set_option maxHeartbeats 400000 in
theorem r7_Count (r : Int) (w : World) :
 Calls Tryz.prog 26 #[i64 (b : Int), i64 (s : Int), i64 r] w fun e w' => ∃ y, e = .returned (ptr y) ∧ w.heap.size ≤ y ∧ Keep0 w w' ∧ ∀ W L, R7 b s false w' y none ⟨W, L, r, [], 0, false, false⟩ := by
 go_enter Tryz.func26, Tryz.ntmps26
 go_wp2_with fail
 go_ret
 exact ⟨_, rfl, Nat.le_refl _, (Keep.refl _ _).alloc _, fun W L => ⟨0, 0, Blk.made rfl rfl, fun _ => ⟨rfl, World.ownsRow_nil _ _ _ _⟩, fun h => by cases h⟩⟩
end
end Go.Proofs.YthaceckccobgeaaGreat

namespace Go.Proofs.YthaceckccobgeaaGreat
open Go.RowKit
set_option linter.unusedVariables false
set_option linter.unusedSimpArgs false
set_option maxRecDepth 100000
set_option maxHeartbeats 1000000 in
theorem ref7_SL {τ : Type} (Mt : τ → Ass) (Inv : Nat → τ → Prop) (stp : τ → τ × Bool) (pk : τ → Nat → Int → τ) (len : Nat) (x m : Nat) (l : List Pk) (A0 : Option Addr) (kb ko c most : Nat) (w : World) (R : Nat → Prop) (t : τ)
 (hmost : most ≤ 1000000) (hl : l.length ≤ 1000000) (hlen : len ≤ 1000000) (ht : (Mt t).At R w) (hi : Inv 0 t) (hA0 : 0 < l.length → A0 = some ⟨kb, ko, none⟩ ∧ kb < w.heap.size ∧ ¬ R kb)
 (hcells : ∀ i (h : i < l.length), w.cell? ⟨kb, ko + i * 3, none⟩ = some (i64 l[i].at_) ∧ w.cell? ⟨kb, ko + i * 3 + 1, none⟩ = some (i64 l[i].w) ∧ w.cell? ⟨kb, ko + i * 3 + 2, none⟩ = some (i64 l[i].x))
 (hmem : ∀ n R w t, (Mt t).At R w → Inv n t → ∃ A c lv, Blk w m 42 [.slice A len c, lv])
 (hipk : ∀ n t i x, (∃ p ∈ l, p.w.toNat = i ∧ p.x = x) → i < len → Inv n t → Inv n (pk t i x)) (hist : ∀ n t, n < most → Inv n t → Inv (n + 1) (stp t).1)
 (hpoke : ∀ n R w t (i x : Int), (∃ p ∈ l, p.w = i ∧ p.x = x) → (Mt t).At R w → Inv n t → 0 ≤ i → i < len → Calls Tryz.prog 76 #[ptr m, i64 i, i64 x] w fun e w' => e = .returned (.tuple #[]) ∧ Tr (Mt (pk t i.toNat x)) R w w')
 (hstep : ∀ n R w t, n < most → (Mt t).At R w → Inv n t → Calls Tryz.prog 77 #[ptr x, ptr m] w fun e w' => e = .returned (.bool (stp t).2) ∧ Tr (Mt (stp t).1) R w w') :
 Calls Tryz.prog 29 #[ptr m, ptr x, .slice A0 l.length c, i64 most] w fun e w' =>
  e = .returned (.tuple #[i64 (playF stp pk len l most 0 t).2.1, .bool (playF stp pk len l most 0 t).2.2]) ∧ Tr (Mt (playF stp pk len l most 0 t).1) R w w' ∧ ∃ n, Inv n (playF stp pk len l most 0 t).1 := by
 have hs0 : (fun (n : Nat) (w1 : World) (t1 : τ) => ∃ R1, (Mt t1).At R1 w1 ∧ Inv n t1 ∧ (∀ k, R1 k → R k ∨ w.heap.size ≤ k) ∧ w.heap.size ≤ w1.heap.size) 0 w t := ⟨R, ht, hi, fun _ h => Or.inl h, Nat.le_refl _⟩
 refine (ref7_Play (fun n w1 t1 => ∃ R1, (Mt t1).At R1 w1 ∧ Inv n t1 ∧ (∀ k, R1 k → R k ∨ w.heap.size ≤ k) ∧ w.heap.size ≤ w1.heap.size) stp pk len x m R w.heap.size l A0 kb ko c most w t hmost hl hlen (Nat.le_refl _) hA0 hcells ?_ ?_ ?_ ?_ hs0).mono ?_
 · rintro n w1 t1 ⟨R1, h1, h2, _⟩
   exact hmem n R1 w1 t1 h1 h2
 · rintro n w1 w2 t1 ⟨R1, h1, h2, h3, h4⟩ hk
   exact ⟨R1, (Mt t1).st h1 hk (fun _ _ h => h), h2, h3, Nat.le_trans h4 hk.size⟩
 · rintro n w1 t1 i y hp ⟨R1, h1, h2, h3, h4⟩ hi0 hi1
   refine (hpoke n R1 w1 t1 i y hp h1 h2 hi0 hi1).mono ?_
   rintro e w2 ⟨rfl, R2, g1, g2, g3⟩
   exact ⟨rfl, ⟨R2, g1, hipk n t1 i.toNat y (by obtain ⟨p, hp1, rfl, rfl⟩ := hp; exact ⟨p, hp1, rfl, rfl⟩) (by omega) h2, fun k hk => (g3 k hk).elim (h3 k) (fun h => Or.inr (Nat.le_trans h4 h)), Nat.le_trans h4 g2.size⟩, g2.mono h3⟩
 · rintro n w1 t1 hn ⟨R1, h1, h2, h3, h4⟩
   refine (hstep n R1 w1 t1 hn h1 h2).mono ?_
   rintro e w2 ⟨rfl, R2, g1, g2, g3⟩
   exact ⟨rfl, ⟨R2, g1, hist n t1 hn h2, fun k hk => (g3 k hk).elim (h3 k) (fun h => Or.inr (Nat.le_trans h4 h)), Nat.le_trans h4 g2.size⟩, g2.mono h3⟩
 · rintro e w2 ⟨rfl, ⟨n, R2, g1, g2, g3, g4⟩, hk⟩
   exact ⟨rfl, ⟨R2, g1, hk.trans (Keep.refl (fun _ => False) _) (fun _ _ h => h.elim) |> fun h => ⟨h.os, h.tape, h.output, h.size, fun k hk hn => h.block k hk (fun h => h.elim hn (fun h => by omega))⟩, g3⟩, n, g2⟩
def snO (b s x : Nat) (t : SN) : Ass := ⟨fun R w => SnR b s R w x t, fun h hk hS => h.keep hk hS, fun h k hk => h.lt k hk⟩
def pkO (b x : Nat) (t : SN) : Ass := ⟨fun R w => PkR b R w x t, fun h hk hS => h.keep hk hS, fun h k hk => h.lt k hk⟩
def r7O (b s : Nat) (pk : Bool) (y : Nat) (t : SN) : Ass where
 At R w := ∃ Ag, R7 b s pk w y Ag t ∧ (pk = true → Ag = none) ∧ ∀ k, R k ↔ RS y Ag k
 st := by
  rintro R S w w' ⟨Ag, h, h2, e⟩ hk hS
  exact ⟨Ag, h.keep hk (fun k hr => hS k ((e k).2 hr)), h2, e⟩
 lt := by
  rintro R w ⟨Ag, h, h2, e⟩ k hk
  exact h.lt k ((e k).1 hk)
theorem memx_post {B m a : Nat} {lv : Value} {W' : List Int} {L' : List Acc} {X' : Ass} {U Rm Rx : Nat → Prop} {w w' : World} (e1 : ∀ k, Rm k ↔ MF m a lv k) (e : ∀ k, U k ↔ Rm k ∨ Rx k)
 (h : ∃ lv' R', MemAt B w' m a lv' W' L' ∧ X'.At R' w' ∧ Keep (fun k => MF m a lv k ∨ Rx k) w w' ∧ (∀ k, lv'.ownBlock = some k → lv.ownBlock = some k ∨ w.heap.size ≤ k) ∧ (∀ k, R' k → Rx k ∨ w.heap.size ≤ k) ∧ (∀ k, R' k → ¬ MF m a lv' k)) : Tr ((memO B m W' L').star X') U w w' := by
 obtain ⟨lv', R', h1, h2, h3, h4, h5, h6⟩ := h
 refine ⟨fun k => MF m a lv' k ∨ R' k, ⟨MF m a lv', R', ⟨a, lv', h1, fun k => Iff.rfl⟩, h2, fun k hm hr => h6 k hr hm, fun k => Iff.rfl⟩, h3.mono (fun k h => (e k).2 (h.imp (e1 k).2 id)), ?_⟩
 rintro k ((h | h | h) | h)
 · exact Or.inl ((e k).2 (Or.inl ((e1 k).2 (Or.inl h))))
 · exact Or.inl ((e k).2 (Or.inl ((e1 k).2 (Or.inr (Or.inl h)))))
 · exact (h4 k h).imp (fun h => (e k).2 (Or.inl ((e1 k).2 (Or.inr (Or.inr h))))) id
 · exact (h5 k h).imp (fun h => (e k).2 (Or.inr h)) id
section
variable {B m x y b s : Nat} {R : Nat → Prop} {w : World} {t : SN}
theorem snO_Step (h : ((memO B m t.W t.L).star (snO b s x t)).At R w) (hi : NInv b s t) (hb : b ≤ 1000000) (hL : t.L.length ≤ 1000000000) :
 Calls Tryz.prog 139 #[ptr x, ptr m] w fun e w' => e = .returned (.bool (nStp b s t).2) ∧ Tr ((memO B m (nStp b s t).1.W (nStp b s t).1.L).star (snO b s x (nStp b s t).1)) R w w' := by
 obtain ⟨Rm, Rx, ⟨a, lv, hm, e1⟩, hx, hd, e2⟩ := h
 refine (sn_Step t hm hx (fun k hr h => hd k ((e1 k).2 h) hr) hi hb hL).mono ?_
 rintro e w' ⟨rfl, h⟩
 exact ⟨rfl, memx_post e1 e2 h⟩
theorem pkO_Step (h : ((memO B m t.W t.L).star (pkO b x t)).At R w) (hi : GInv b t) (hb : b ≤ 1000000) (hL : t.L.length ≤ 1000000000) :
 Calls Tryz.prog 139 #[ptr x, ptr m] w fun e w' => e = .returned (.bool (gStp b t).2) ∧ Tr ((memO B m (gStp b t).1.W (gStp b t).1.L).star (pkO b x (gStp b t).1)) R w w' := by
 obtain ⟨Rm, Rx, ⟨a, lv, hm, e1⟩, hx, hd, e2⟩ := h
 refine (pk_Step t hm hx (fun k hr h => hd k ((e1 k).2 h) hr) hi.1 hb hL).mono ?_
 rintro e w' ⟨rfl, h⟩
 exact ⟨rfl, memx_post e1 e2 h⟩
theorem snO_New (b s : Nat) (r : Int) (w : World) (W : List Int) (L : List Acc) (hs : s ≤ 8) (hb : b ≤ 1000000) :
 Calls Tryz.prog 75 #[i64 (b : Int), i64 (s : Int), i64 r] w fun e w' => ∃ x, e = .returned (ptr x) ∧ Nw (snO b s x ⟨W, L, r, [], 0, false, false⟩) w w' := by
 refine (snap_Count b s r w hs hb).mono ?_
 rintro e w' ⟨x, R, rfl, hk, h, hr⟩
 exact ⟨x, rfl, R, h W L, hk, hr⟩
theorem pkO_New (b : Nat) (w : World) (W : List Int) (L : List Acc) :
 Calls Tryz.prog 79 #[i64 (b : Int)] w fun e w' => ∃ x, e = .returned (ptr x) ∧ Nw (pkO b x ⟨W, L, 0, [], 0, false, false⟩) w w' := by
 refine (snap_Peek b w).mono ?_
 rintro e w' ⟨x, R, rfl, hk, h, hr⟩
 exact ⟨x, rfl, R, h W L, hk, hr⟩
theorem rs_none {y k : Nat} (h : RS y none k) : k = y := by
 rcases h with h | h
 · exact h
 · simp [Value.ownBlock] at h
theorem r7O_NewC (b s : Nat) (r : Int) (w : World) (W : List Int) (L : List Acc) :
 Calls Tryz.prog 26 #[i64 (b : Int), i64 (s : Int), i64 r] w fun e w' => ∃ y, e = .returned (ptr y) ∧ Nw (r7O b s false y ⟨W, L, r, [], 0, false, false⟩) w w' := by
 refine (r7_Count r w).mono ?_
 rintro e w' ⟨y, rfl, hz, hk, h⟩
 exact ⟨y, rfl, RS y none, ⟨none, h W L, fun _ => rfl, fun k => Iff.rfl⟩, hk, fun k h => by rw [rs_none h]; exact hz⟩
def PI7 (Inv : SN → Prop) (len L0 : Nat) (n : Nat) (t : SN) : Prop := Inv t ∧ t.W.length = len ∧ t.L.length ≤ L0 + n
section
variable (t : SN) (l : List Pk) (A0 : Option Addr) (kb ko c most : Nat) (hb : b ≤ 1000000) (hL : t.L.length ≤ 1000000) (hmost : most ≤ 2000) (hl : l.length ≤ 1000000) (hlen : t.W.length ≤ 1000000)
 (hA0 : 0 < l.length → A0 = some ⟨kb, ko, none⟩ ∧ kb < w.heap.size ∧ ¬ R kb)
 (hcells : ∀ i (h : i < l.length), w.cell? ⟨kb, ko + i * 3, none⟩ = some (i64 l[i].at_) ∧ w.cell? ⟨kb, ko + i * 3 + 1, none⟩ = some (i64 l[i].w) ∧ w.cell? ⟨kb, ko + i * 3 + 2, none⟩ = some (i64 l[i].x))
include hb hL hmost hl hA0 hcells hlen
theorem snO_Play (h : ((memO B m t.W t.L).star (snO b s x t)).At R w) (hi : NInv b s t) :
 Calls Tryz.prog 28 #[ptr m, .iface 57 (ptr x), .slice A0 l.length c, i64 most] w fun e w' =>
  e = .returned (.tuple #[i64 (playF (nStp b s) nPk t.W.length l most 0 t).2.1, .bool (playF (nStp b s) nPk t.W.length l most 0 t).2.2]) ∧ Tr ((memO B m (playF (nStp b s) nPk t.W.length l most 0 t).1.W (playF (nStp b s) nPk t.W.length l most 0 t).1.L).star (snO b s x (playF (nStp b s) nPk t.W.length l most 0 t).1)) R w w' ∧ ∃ n, PI7 (NInv b s) t.W.length t.L.length n (playF (nStp b s) nPk t.W.length l most 0 t).1 := by
 refine play_SL (fun t => (memO B m t.W t.L).star (snO b s x t)) (PI7 (NInv b s) t.W.length t.L.length) (nStp b s) nPk t.W.length 139 57 x m l A0 kb ko c most w R t (by omega) hl hlen h ⟨hi, rfl, by omega⟩ hA0 hcells ?_ ?_ ?_ ?_ ?_ (fun w => meth_nStep x w) callF_nStep
 · rintro n R w t1 ⟨Rm, Rx, h1, _⟩ ⟨_, e, _⟩
   rw [← e]
   exact memO_mem h1
 · rintro n t1 i y _ _ ⟨h1, h2, h3⟩
   exact ⟨h1.poke i y, by simpa [nPk] using h2, h3⟩
 · rintro n t1 hn ⟨h1, h2, h3⟩
   exact ⟨h1.step, by show (nNext b s t1).W.length = _; rw [nNext_W]; exact h2, by have := nNext_logle b s t1; show (nNext b s t1).L.length ≤ _; omega⟩
 · rintro n R w t1 i y _ h1 ⟨_, e, _⟩ hi0 hi1
   obtain ⟨Rm, Rx, g1, g2, g3, g4⟩ := h1
   refine (memO_Poke i y g1 hi0 (by omega)).mono ?_
   rintro e w2 ⟨rfl, h⟩
   exact ⟨rfl, Tr.frame1 (r := snO b s x (nPk t1 i.toNat y)) (show SnR b s Rx w x (nPk t1 i.toNat y) from SnR.poke g2 _ _) g3 g4 h⟩
 · rintro n R w t1 hn h1 ⟨h2, h3, h4⟩
   exact snO_Step h1 h2 hb (by omega)
theorem pkO_Play (h : ((memO B m t.W t.L).star (pkO b x t)).At R w) (hi : GInv b t) :
 Calls Tryz.prog 28 #[ptr m, .iface 57 (ptr x), .slice A0 l.length c, i64 most] w fun e w' =>
  e = .returned (.tuple #[i64 (playF (gStp b) nPk t.W.length l most 0 t).2.1, .bool (playF (gStp b) nPk t.W.length l most 0 t).2.2]) ∧ Tr ((memO B m (playF (gStp b) nPk t.W.length l most 0 t).1.W (playF (gStp b) nPk t.W.length l most 0 t).1.L).star (pkO b x (playF (gStp b) nPk t.W.length l most 0 t).1)) R w w' ∧ ∃ n, PI7 (GInv b) t.W.length t.L.length n (playF (gStp b) nPk t.W.length l most 0 t).1 := by
 refine play_SL (fun t => (memO B m t.W t.L).star (pkO b x t)) (PI7 (GInv b) t.W.length t.L.length) (gStp b) nPk t.W.length 139 57 x m l A0 kb ko c most w R t (by omega) hl hlen h ⟨hi, rfl, by omega⟩ hA0 hcells ?_ ?_ ?_ ?_ ?_ (fun w => meth_nStep x w) callF_nStep
 · rintro n R w t1 ⟨Rm, Rx, h1, _⟩ ⟨_, e, _⟩
   rw [← e]
   exact memO_mem h1
 · rintro n t1 i y _ _ ⟨h1, h2, h3⟩
   exact ⟨⟨by simpa [nPk] using h1.1, h1.2⟩, by simpa [nPk] using h2, h3⟩
 · rintro n t1 hn ⟨h1, h2, h3⟩
   exact ⟨h1.step, by show (gNext b t1).W.length = _; rw [gNext_W]; exact h2, by have := gNext_logle b t1; show (gNext b t1).L.length ≤ _; omega⟩
 · rintro n R w t1 i y _ h1 ⟨_, e, _⟩ hi0 hi1
   obtain ⟨Rm, Rx, g1, g2, g3, g4⟩ := h1
   refine (memO_Poke i y g1 hi0 (by omega)).mono ?_
   rintro e w2 ⟨rfl, h⟩
   exact ⟨rfl, Tr.frame1 (r := pkO b x (nPk t1 i.toNat y)) (show PkR b Rx w x (nPk t1 i.toNat y) from PkR.poke g2 _ _) g3 g4 h⟩
 · rintro n R w t1 hn h1 ⟨h2, h3, h4⟩
   exact pkO_Step h1 h2 hb (by omega)
end
end
end Go.Proofs.YthaceckccobgeaaGreat

namespace Go.Proofs.YthaceckccobgeaaGreat
open Go.RowKit
set_option linter.unusedVariables false
set_option linter.unusedSimpArgs false
set_option maxRecDepth 100000
def p14 : P12 := ⟨2, 2, 4, 4, 2, 3, [-1, 0, 1, 0], [20, 10, 8, 5], 2, 4, 0, [2, 1, 0]⟩
def fw14 : List Int := [20, 14, 2, 0, 4, 1, 1, 1, 4294967296, 0, 10, 4, 2, 0, 4, 1, 1, 1, 4294967296, 0, 8, 2, 2, 0, 4, 1, 1, 1, 4294967296, 0, 5, 5, 0, 0, 0, 0, 0, 1, 0, 0, 8589934594, 4194308, 0, 0, 0, 0]
theorem head14_a : (playF (stp12 p14) pk12 46 [] 300 0 (start12 p14 (freshW 2 3 4 [20, 10, 8, 5]) [])).1.W = fw14 ∧ (playF (stp12 p14) pk12 46 [] 300 0 (start12 p14 (freshW 2 3 4 [20, 10, 8, 5]) [])).2 = (37, true) := by
 constructor <;> kernel_rfl
theorem p14_ok : P12OK p14 := by
 refine ⟨by unfold p2 p14; decide, by decide, by decide, by decide, by decide, by decide, by decide, by decide, by decide, by decide, by decide⟩
theorem par14 : ParR p14.P := by
 intro i hi
 have hi : i < 4 := hi
 match i, hi with
 | 0, _ => exact ⟨fun _ => rfl, fun h => by omega⟩
 | 1, _ => exact ⟨fun h => by omega, fun _ => by decide⟩
 | 2, _ => exact ⟨fun h => by omega, fun _ => by decide⟩
 | 3, _ => exact ⟨fun h => by omega, fun _ => by decide⟩
theorem path14 : p14.path = pathN p14.P p14.nd := by kernel_rfl
theorem use14 : lvB 4 fw14 40 = true ∧ lvV 4 fw14 40 = 2 ∧ lvN 4 fw14 40 = 4 ∧ lvB 4 fw14 42 = false ∧ lvV 4 fw14 42 = 0 ∧ lvN 4 fw14 42 = 0 ∧ usedN [-1, 0, 1, 0] fw14 40 3 0 = 4 ∧ usedN [-1, 0, 1, 0] fw14 40 3 3 = 0 ∧ usedN [-1, 0, 1, 0] fw14 40 3 1 = 4 ∧ leftN fw14 11 2 = 6 := by
 refine ⟨?_, ?_, ?_, ?_, ?_, ?_, ?_, ?_, ?_, ?_⟩ <;> kernel_rfl
theorem wok14 : WOK p14 20 (freshW 2 3 4 [20, 10, 8, 5]) := by
 refine ⟨by kernel_rfl, ?_, ?_, ?_⟩
 · intro v hv
   have hv : v < 4 := hv
   match v, hv with
   | 0, _ | 1, _ | 2, _ | 3, _ => decide
 · intro v hv u hu
   have hv : v < 4 := hv
   have hu : u < 2 := hu
   match v, hv, u, hu with
   | 0, _, 0, _ | 1, _, 0, _ | 2, _, 0, _ | 3, _, 0, _ | 0, _, 1, _ | 1, _, 1, _ | 2, _, 1, _ | 3, _, 1, _ => decide
 · intro v hv
   have hv : v < 4 := hv
   match v, hv with
   | 0, _ | 1, _ | 2, _ | 3, _ => unfold p2; decide
theorem head14_b : (playF (nStp 14 2) nPk 46 [] 50 0 (⟨fw14, [], 2, [], 0, false, false⟩ : SN)).2 = (8, true) ∧ (playF (nStp 14 2) nPk 46 [] 50 0 (⟨fw14, [], 2, [], 0, false, false⟩ : SN)).1.W = fw14 ∧ (playF (nStp 14 2) nPk 46 [] 50 0 (⟨fw14, [], 2, [], 0, false, false⟩ : SN)).1.L.length = 8 ∧ (playF (nStp 14 2) nPk 46 [] 50 0 (⟨fw14, [], 2, [], 0, false, false⟩ : SN)).1.n = 4 ∧ (playF (nStp 14 2) nPk 46 [] 50 0 (⟨fw14, [], 2, [], 0, false, false⟩ : SN)).1.ex = true := by
 refine ⟨?_, ?_, ?_, ?_, ?_⟩ <;> kernel_rfl
theorem head14_c (L : List Acc) : (playF (gStp 14) nPk 46 [] 50 0 (⟨fw14, L, 0, [], 0, false, false⟩ : SN)).2 = (1, true) ∧ (playF (gStp 14) nPk 46 [] 50 0 (⟨fw14, L, 0, [], 0, false, false⟩ : SN)).1.W = fw14 ∧ (playF (gStp 14) nPk 46 [] 50 0 (⟨fw14, L, 0, [], 0, false, false⟩ : SN)).1.n = 4 ∧ (playF (gStp 14) nPk 46 [] 50 0 (⟨fw14, L, 0, [], 0, false, false⟩ : SN)).1.ex = false := by
 refine ⟨?_, ?_, ?_, ?_⟩ <;> rfl
theorem usage_Count (t s g l r k : Int) (PA : Option Addr) (pn pc : Nat) (LA : Option Addr) (ln lc : Nat) (v : Int) (b : Nat) (w : World) (W : List Int) (L : List Acc) (hs0 : 1 ≤ s) (hs1 : s ≤ 8) (h0 : 0 ≤ v) (h1 : v ≤ 1000) (hb : (b : Int) = v * (6 + 2 * s) + 2 + s) :
 Calls Tryz.prog 25 #[.agg #[i64 t, i64 s, i64 g, i64 l, i64 r, i64 k, .slice PA pn pc, .slice LA ln lc], i64 v] w fun e w' => ∃ x, e = .returned (ptr x) ∧ Nw (snO b s.toNat x ⟨W, L, r, [], 0, false, false⟩) w w' := by
 have hm := mul_bd 1000 22 h0 h1 (show 0 ≤ 6 + 2 * s by omega) (by omega)
 have HC := hid (fun w' => plan_Counter t s g l r k PA pn pc LA ln lc v w' hs0 hs1 h0 h1)
 rw [← hb] at HC
 have HSN := hid (fun w' => snO_New b s.toNat r w' W L (by omega) (by omega))
 rw [Int.toNat_of_nonneg (by omega)] at HSN
 clear hb hm
 go_enter Tryz.func25, Tryz.ntmps25
 have hk0 : Keep0 w (w.alloc (.cells #[i64 t, i64 s, i64 g, i64 l, i64 r, i64 k, .slice PA pn pc, .slice LA ln lc] 24)) := (Keep.refl _ _).alloc _
 have hb0 : Blk (w.alloc (.cells #[i64 t, i64 s, i64 g, i64 l, i64 r, i64 k, .slice PA pn pc, .slice LA ln lc] 24)) w.heap.size 24 [i64 t, i64 s, i64 g, i64 l, i64 r, i64 k, .slice PA pn pc, .slice LA ln lc] := Blk.made rfl rfl
 have q0 := hb0.k8
 go_upto_region 1 with fail
 have HB := hid hb0
 have HK := hid hk0
 clear hb0 hk0 q0
 generalize w.alloc (.cells #[i64 t, i64 s, i64 g, i64 l, i64 r, i64 k, .slice PA pn pc, .slice LA ln lc] 24) = w1 at *
 apply wp_region_free (WI := MK 7 8 (fun y => snO b s.toNat y ⟨W, L, r, [], 0, false, false⟩) w1) (by kernel_rfl) (by kernel_rfl)
 case hob =>
  iterate 2
   apply ObligF.fixed
   case h =>
    intro S gh w1 hwi hSi hd hcl
    apply StepOk.intro
    intro K hK
    have qb := (hwi.1.blk HB.out (fun h => h)).k8
    go_simp
    apply hK
    · rfl
    · conv => (lhs; whnf)
    · exact hwi.fixed (by decide)
   simp only [put_lit, put_none]
   try dsimp only [List.set_cons_succ, List.set_cons_zero]
  apply ObligF.fixed
  case h =>
   intro S gh w1 hwi hSi hd hcl
   apply StepOk.intro
   intro K hK
   go_simp
   refine (HC.out _).mono ?_
   rintro e w2 ⟨rfl, hk⟩
   apply hK
   · rfl
   · conv => (lhs; whnf)
   · exact (hwi.keep hk).fixed (by decide)
  simp only [put_lit, put_none]
  try dsimp only [List.set_cons_succ, List.set_cons_zero]
  iterate 4
   apply ObligF.fixed
   case h =>
    intro S gh w1 hwi hSi hd hcl
    apply StepOk.intro
    intro K hK
    have qb := (hwi.1.blk HB.out (fun h => h)).k8
    go_simp
    apply hK
    · rfl
    · conv => (lhs; whnf)
    · exact hwi.fixed (by decide)
   simp only [put_lit, put_none]
   try dsimp only [List.set_cons_succ, List.set_cons_zero]
  apply ObligF.free
  case h =>
   intro S gh w1 hwi hSi hd hcl
   apply StepG.intro
   intro K hK
   have qb := (hwi.1.blk HB.out (fun h => h)).k8
   go_simp
   refine Calls.mono (HSN.out _) ?_
   rintro e w2 ⟨yn, rfl, hn⟩
   apply hK
   · rfl
   · exact hwi.made (by decide) yn hn
  simp only [put_lit, put_none]
  try dsimp only [List.set_cons_succ, List.set_cons_zero]
  apply ObligF.free
  case h =>
   intro S gh w1 hwi hSi hd hcl
   apply StepG.intro
   intro K hK
   have h9 := hd ⟨7, .data⟩ (by simp) rfl
   go_simp
   apply hK
   · rfl
   · exact hwi.hand (by decide) h9
  simp only [put_lit, put_none]
  try dsimp only [List.set_cons_succ, List.set_cons_zero]
  exact ObligF.nil
 case h0 =>
  exact MK.start (Keep.refl _ _).drew
 case hend =>
  intro S gh wx hwi hall
  obtain ⟨y, e1, hn⟩ := hwi.2.2 (hall 8 (by decide))
  clear hwi hall
  have HN := hid hn
  clear hn
  rw [e1]
  go_wp2_with fail
  go_ret
  exact ⟨y, rfl, HN.out.before HK.out⟩
theorem usage_Peek (t s g l r k : Int) (PA : Option Addr) (pn pc : Nat) (LA : Option Addr) (ln lc : Nat) (v : Int) (b : Nat) (w : World) (W : List Int) (L : List Acc) (hs0 : 1 ≤ s) (hs1 : s ≤ 8) (h0 : 0 ≤ v) (h1 : v ≤ 1000) (hb : (b : Int) = v * (6 + 2 * s) + 2 + s) :
 Calls Tryz.prog 34 #[.agg #[i64 t, i64 s, i64 g, i64 l, i64 r, i64 k, .slice PA pn pc, .slice LA ln lc], i64 v] w fun e w' => ∃ x, e = .returned (ptr x) ∧ Nw (pkO b x ⟨W, L, 0, [], 0, false, false⟩) w w' := by
 have HC := hid (fun w' => plan_Counter t s g l r k PA pn pc LA ln lc v w' hs0 hs1 h0 h1)
 rw [← hb] at HC
 have HSN := hid (fun w' => pkO_New b w' W L)
 clear hb
 go_enter Tryz.func34, Tryz.ntmps34
 have HK0 := hid (show Keep0 w (w.alloc (.cells #[i64 t, i64 s, i64 g, i64 l, i64 r, i64 k, .slice PA pn pc, .slice LA ln lc] 24)) from (Keep.refl _ _).alloc _)
 go_wp2_with fail
 refine (HC.out _).mono ?_
 rintro e w1 ⟨rfl, hk⟩
 have HK1 : Hid (Keep0 w w1) := hid (Keep0.step HK0.out hk)
 clear hk HK0
 go_wp2_with fail
 refine (HSN.out _).mono ?_
 rintro e w2 ⟨x, rfl, R, h1, h2, h3⟩
 have HN := hid (show Nw (pkO b x ⟨W, L, 0, [], 0, false, false⟩) w w2 from ⟨R, h1, Keep0.step HK1.out h2, fun k hk => Nat.le_trans HK1.out.size (h3 k hk)⟩)
 clear h1 h2 h3
 go_wp2_with fail
 go_ret
 exact ⟨x, rfl, HN.out⟩
theorem play14 : ∃ T : S12, T.W = fw14 ∧ ∀ (m B z : Nat) (R : Nat → Prop) (w : World), ((refO B m (freshW 2 3 4 [20, 10, 8, 5]) []).star (r12O p14 z (start12 p14 (freshW 2 3 4 [20, 10, 8, 5]) []))).At R w →
 Calls Tryz.prog 39 #[ptr m, ptr z, .slice none 0 0, i64 300] w fun e w' => e = .returned (.tuple #[i64 37, .bool true]) ∧ Tr ((refO B m fw14 T.L).star (r12O p14 z T)) R w w' := by
 refine ⟨_, head14_a.1, fun m B z R w h => ?_⟩
 have hp := r12_Play (p := p14) (X := 20) p14_ok [] none 0 0 0 300 (by decide) (by decide) h (I12.start p14_ok wok14) (by decide) (by decide) (fun h => absurd h (by decide)) (fun i h => absurd h (by simp)) (fun q hq => by cases hq)
 refine hp.mono ?_
 rintro e w' ⟨rfl, ht, _⟩
 have e1 : p14.q + 2 * p14.K = 46 := by decide
 rw [e1] at ht ⊢
 refine ⟨by rw [head14_a.2]; rfl, ?_⟩
 rw [head14_a.1] at ht
 exact ht
theorem count14 : ∃ (T : SN) (L : List Acc), (T.n = 4 ∧ T.ex = true) ∧ L.length ≤ 50 ∧ ∀ (m B x : Nat) (R : Nat → Prop) (w : World), ((memO B m fw14 []).star (snO 14 2 x ⟨fw14, [], 2, [], 0, false, false⟩)).At R w →
 Calls Tryz.prog 28 #[ptr m, .iface 57 (ptr x), .slice none 0 0, i64 50] w fun e w' => e = .returned (.tuple #[i64 8, .bool true]) ∧ Tr ((memO B m fw14 L).star (snO 14 2 x T)) R w w' := by
 refine ⟨(playF (nStp 14 2) nPk 46 [] 50 0 (⟨fw14, [], 2, [], 0, false, false⟩ : SN)).1, (playF (nStp 14 2) nPk 46 [] 50 0 (⟨fw14, [], 2, [], 0, false, false⟩ : SN)).1.L, head14_b.2.2.2, by rw [head14_b.2.2.1]; decide, fun m B x R w h => ?_⟩
 have hp := snO_Play (b := 14) (s := 2) (⟨fw14, [], 2, [], 0, false, false⟩ : SN) [] none 0 0 0 50 (by decide) (by decide) (by decide) (by decide) (by decide) (fun h => absurd h (by decide)) (fun i h => absurd h (by simp)) h (NInv.start (by decide) (by decide) (by decide) (by decide))
 refine hp.mono ?_
 rintro e w' ⟨rfl, ht, _⟩
 have ht : Tr ((memO B m (playF (nStp 14 2) nPk 46 [] 50 0 (⟨fw14, [], 2, [], 0, false, false⟩ : SN)).1.W (playF (nStp 14 2) nPk 46 [] 50 0 (⟨fw14, [], 2, [], 0, false, false⟩ : SN)).1.L).star (snO 14 2 x (playF (nStp 14 2) nPk 46 [] 50 0 (⟨fw14, [], 2, [], 0, false, false⟩ : SN)).1)) R w w' := ht
 rw [head14_b.2.1] at ht
 exact ⟨congrArg (fun u : Nat × Bool => Ending.returned (.tuple #[i64 u.1, .bool u.2])) head14_b.1, ht⟩
theorem peek14 (L0 : List Acc) (hL0 : L0.length ≤ 50) : ∃ (T : SN) (L : List Acc), (T.n = 4 ∧ T.ex = false) ∧ (L = L) ∧ ∀ (m B x : Nat) (R : Nat → Prop) (w : World), ((memO B m fw14 L0).star (pkO 14 x ⟨fw14, L0, 0, [], 0, false, false⟩)).At R w →
 Calls Tryz.prog 28 #[ptr m, .iface 57 (ptr x), .slice none 0 0, i64 50] w fun e w' => e = .returned (.tuple #[i64 1, .bool true]) ∧ Tr ((memO B m fw14 L).star (pkO 14 x T)) R w w' := by
 refine ⟨(playF (gStp 14) nPk 46 [] 50 0 (⟨fw14, L0, 0, [], 0, false, false⟩ : SN)).1, (playF (gStp 14) nPk 46 [] 50 0 (⟨fw14, L0, 0, [], 0, false, false⟩ : SN)).1.L, (head14_c L0).2.2, rfl, fun m B x R w h => ?_⟩
 have hp := pkO_Play (b := 14) (⟨fw14, L0, 0, [], 0, false, false⟩ : SN) [] none 0 0 0 50 (by decide) (by show L0.length ≤ _; omega) (by decide) (by decide) (by show fw14.length ≤ 1000000; decide) (fun h => absurd h (by decide)) (fun i h => absurd h (by simp)) h ⟨by show 14 < fw14.length; decide, fun _ => ⟨rfl, rfl⟩⟩
 refine hp.mono ?_
 rintro e w' ⟨rfl, ht, _⟩
 have ht : Tr ((memO B m (playF (gStp 14) nPk 46 [] 50 0 (⟨fw14, L0, 0, [], 0, false, false⟩ : SN)).1.W (playF (gStp 14) nPk 46 [] 50 0 (⟨fw14, L0, 0, [], 0, false, false⟩ : SN)).1.L).star (pkO 14 x (playF (gStp 14) nPk 46 [] 50 0 (⟨fw14, L0, 0, [], 0, false, false⟩ : SN)).1)) R w w' := ht
 rw [(head14_c L0).2.1] at ht
 exact ⟨congrArg (fun u : Nat × Bool => Ending.returned (.tuple #[i64 u.1, .bool u.2])) (head14_c L0).1, ht⟩
set_option maxHeartbeats 8000000 in
theorem law14_head (w : World) : Calls Tryz.prog 7 #[] w (Ret (.bool true) w) := by
 obtain ⟨T, _, hplay⟩ := play14
 obtain ⟨Tc, Lc, htc, hlc, hcount⟩ := count14
 obtain ⟨Td, Ld, htd, _, hpeek⟩ := peek14 Lc hlc
 have HTC := hid htc
 have HTD := hid htd
 clear htc htd hlc
 go_enter Tryz.func7, Tryz.ntmps7
 go_wp2_with fail
 refine Calls.mono (St.newx (q := fun x : Nat × Nat => Ass.star (intsO x.1 [-1, 0, 1, 0]) (intsO x.2 [20, 10, 8, 5])) (show St w [] _ from St.nil (Keep.refl _ _)) (base_Nw _)) ?_
 rintro e w1 ⟨x, rfl, hs⟩
 have HS1 := hid (St.part hs)
 clear hs
 go_wp2_with fail
 obtain ⟨w2, hw2⟩ : ∃ v, v = w1.alloc (.cells #[i64 2, i64 2, i64 4, i64 4, i64 2, i64 3, .slice (some ⟨x.1, 0, none⟩) 4 4, .slice (some ⟨x.2, 0, none⟩) 4 4] 24) := ⟨_, rfl⟩
 rw [← hw2]
 obtain ⟨cb, hcb⟩ : ∃ v, v = w1.heap.size := ⟨_, rfl⟩
 rw [← hcb]
 have hs := St.nw HS1.out (Nw.blk (w' := w2) (b := cb) (T := 24) (cs := [i64 2, i64 2, i64 4, i64 4, i64 2, i64 3, .slice (some ⟨x.1, 0, none⟩) 4 4, .slice (some ⟨x.2, 0, none⟩) 4 4]) (by rw [hw2]; exact Blk.made hcb rfl) (by rw [hw2]; exact (Keep.refl _ _).alloc _) (by omega))
 clear hw2 hcb HS1
 have HS := hid hs
 clear hs
 obtain ⟨_, ⟨hb, _⟩, _⟩ := St.get (show St w [Ass.blk cb 24 [i64 2, i64 2, i64 4, i64 4, i64 2, i64 3, .slice (some ⟨x.1, 0, none⟩) 4 4, .slice (some ⟨x.2, 0, none⟩) 4 4], intsO x.1 [-1, 0, 1, 0], intsO x.2 [20, 10, 8, 5]] w2 from (show St w [Ass.blk cb 24 [i64 2, i64 2, i64 4, i64 4, i64 2, i64 3, .slice (some ⟨x.1, 0, none⟩) 4 4, .slice (some ⟨x.2, 0, none⟩) 4 4], intsO x.1 [-1, 0, 1, 0], intsO x.2 [20, 10, 8, 5]] w2 from by repeat (with_reducible first | exact HS.out | apply St.alloc | apply St.drewN | apply St.drew)))
 have qb := hb.k8
 clear hb
 have hcl := St.cells (show St w [intsO x.2 [20, 10, 8, 5], Ass.blk cb 24 [i64 2, i64 2, i64 4, i64 4, i64 2, i64 3, .slice (some ⟨x.1, 0, none⟩) 4 4, .slice (some ⟨x.2, 0, none⟩) 4 4], intsO x.1 [-1, 0, 1, 0]] w2 from (St.pick (show St w [Ass.blk cb 24 [i64 2, i64 2, i64 4, i64 4, i64 2, i64 3, .slice (some ⟨x.1, 0, none⟩) 4 4, .slice (some ⟨x.2, 0, none⟩) 4 4], intsO x.1 [-1, 0, 1, 0], intsO x.2 [20, 10, 8, 5]] w2 from by repeat (with_reducible first | exact HS.out | apply St.alloc | apply St.drewN | apply St.drew)) 2 (by simp)))
 refine Calls.mono (St.newx (q := fun (y : Nat × Nat) => refO y.2 y.1 (freshW 2 3 4 [20, 10, 8, 5]) []) (show St w [Ass.blk cb 24 [i64 2, i64 2, i64 4, i64 4, i64 2, i64 3, .slice (some ⟨x.1, 0, none⟩) 4 4, .slice (some ⟨x.2, 0, none⟩) 4 4], intsO x.1 [-1, 0, 1, 0], intsO x.2 [20, 10, 8, 5]] _ from (show St w [Ass.blk cb 24 [i64 2, i64 2, i64 4, i64 4, i64 2, i64 3, .slice (some ⟨x.1, 0, none⟩) 4 4, .slice (some ⟨x.2, 0, none⟩) 4 4], intsO x.1 [-1, 0, 1, 0], intsO x.2 [20, 10, 8, 5]] _ from by repeat (with_reducible first | exact HS.out | apply St.alloc | apply St.drewN | apply St.drew))) (show Calls Tryz.prog 38 #[.agg #[i64 2, i64 2, i64 4, i64 4, i64 2, i64 3, .slice (some ⟨x.1, 0, none⟩) 4 4, .slice (some ⟨x.2, 0, none⟩) 4 4]] w2 _ from refO_Fresh w2 x.2 0 2 2 4 4 2 3 (some ⟨x.1, 0, none⟩) 4 4 4 4 ([20, 10, 8, 5] : List Int) (by decide) (by decide) (by decide) (by decide) (by decide) (by decide) hcl (by have := World.block_lt_of_cell? _ _ (hcl 0 (by decide)); simpa using this))) ?_
 rintro e w3 ⟨y, rfl, hs⟩
 clear HS
 have HS := hid (show St w [refO y.2 y.1 (freshW 2 3 4 [20, 10, 8, 5]) [], Ass.blk cb 24 [i64 2, i64 2, i64 4, i64 4, i64 2, i64 3, .slice (some ⟨x.1, 0, none⟩) 4 4, .slice (some ⟨x.2, 0, none⟩) 4 4], intsO x.1 [-1, 0, 1, 0], intsO x.2 [20, 10, 8, 5]] w3 from hs)
 clear hs
 clear hcl qb
 obtain ⟨_, ⟨hb, _⟩, _⟩ := St.get (show St w [Ass.blk cb 24 [i64 2, i64 2, i64 4, i64 4, i64 2, i64 3, .slice (some ⟨x.1, 0, none⟩) 4 4, .slice (some ⟨x.2, 0, none⟩) 4 4], refO y.2 y.1 (freshW 2 3 4 [20, 10, 8, 5]) [], intsO x.1 [-1, 0, 1, 0], intsO x.2 [20, 10, 8, 5]] w3 from (St.pick (show St w [refO y.2 y.1 (freshW 2 3 4 [20, 10, 8, 5]) [], Ass.blk cb 24 [i64 2, i64 2, i64 4, i64 4, i64 2, i64 3, .slice (some ⟨x.1, 0, none⟩) 4 4, .slice (some ⟨x.2, 0, none⟩) 4 4], intsO x.1 [-1, 0, 1, 0], intsO x.2 [20, 10, 8, 5]] w3 from by repeat (with_reducible first | exact HS.out | apply St.alloc | apply St.drewN | apply St.drew)) 1 (by simp)))
 have qb := hb.k8
 clear hb
 have hcl := St.cells (show St w [intsO x.2 [20, 10, 8, 5], refO y.2 y.1 (freshW 2 3 4 [20, 10, 8, 5]) [], Ass.blk cb 24 [i64 2, i64 2, i64 4, i64 4, i64 2, i64 3, .slice (some ⟨x.1, 0, none⟩) 4 4, .slice (some ⟨x.2, 0, none⟩) 4 4], intsO x.1 [-1, 0, 1, 0]] w3 from (St.pick (show St w [refO y.2 y.1 (freshW 2 3 4 [20, 10, 8, 5]) [], Ass.blk cb 24 [i64 2, i64 2, i64 4, i64 4, i64 2, i64 3, .slice (some ⟨x.1, 0, none⟩) 4 4, .slice (some ⟨x.2, 0, none⟩) 4 4], intsO x.1 [-1, 0, 1, 0], intsO x.2 [20, 10, 8, 5]] w3 from by repeat (with_reducible first | exact HS.out | apply St.alloc | apply St.drewN | apply St.drew)) 3 (by simp)))
 have hcp := St.cells (show St w [intsO x.1 [-1, 0, 1, 0], refO y.2 y.1 (freshW 2 3 4 [20, 10, 8, 5]) [], Ass.blk cb 24 [i64 2, i64 2, i64 4, i64 4, i64 2, i64 3, .slice (some ⟨x.1, 0, none⟩) 4 4, .slice (some ⟨x.2, 0, none⟩) 4 4], intsO x.2 [20, 10, 8, 5]] w3 from (St.pick (show St w [refO y.2 y.1 (freshW 2 3 4 [20, 10, 8, 5]) [], Ass.blk cb 24 [i64 2, i64 2, i64 4, i64 4, i64 2, i64 3, .slice (some ⟨x.1, 0, none⟩) 4 4, .slice (some ⟨x.2, 0, none⟩) 4 4], intsO x.1 [-1, 0, 1, 0], intsO x.2 [20, 10, 8, 5]] w3 from by repeat (with_reducible first | exact HS.out | apply St.alloc | apply St.drewN | apply St.drew)) 2 (by simp)))
 go_wp2_with fail
 refine Calls.mono (St.newx (q := fun z => r12O p14 z (start12 p14 (freshW 2 3 4 [20, 10, 8, 5]) [])) (show St w [refO y.2 y.1 (freshW 2 3 4 [20, 10, 8, 5]) [], Ass.blk cb 24 [i64 2, i64 2, i64 4, i64 4, i64 2, i64 3, .slice (some ⟨x.1, 0, none⟩) 4 4, .slice (some ⟨x.2, 0, none⟩) 4 4], intsO x.1 [-1, 0, 1, 0], intsO x.2 [20, 10, 8, 5]] _ from (show St w [refO y.2 y.1 (freshW 2 3 4 [20, 10, 8, 5]) [], Ass.blk cb 24 [i64 2, i64 2, i64 4, i64 4, i64 2, i64 3, .slice (some ⟨x.1, 0, none⟩) 4 4, .slice (some ⟨x.2, 0, none⟩) 4 4], intsO x.1 [-1, 0, 1, 0], intsO x.2 [20, 10, 8, 5]] _ from by repeat (with_reducible first | exact HS.out | apply St.alloc | apply St.drewN | apply St.drew))) (show Calls Tryz.prog 11 #[.agg #[i64 2, i64 2, i64 4, i64 4, i64 2, i64 3, .slice (some ⟨x.1, 0, none⟩) 4 4, .slice (some ⟨x.2, 0, none⟩) 4 4], i64 2, i64 4, i64 0] w3 _ from r12_New (p := p14) p14_ok par14.ok path14 x.1 0 4 x.2 0 4 w3 hcp hcl (freshW 2 3 4 [20, 10, 8, 5]) [])) ?_
 rintro e w4 ⟨z, rfl, hs⟩
 clear HS
 have HS := hid (show St w [r12O p14 z (start12 p14 (freshW 2 3 4 [20, 10, 8, 5]) []), refO y.2 y.1 (freshW 2 3 4 [20, 10, 8, 5]) [], Ass.blk cb 24 [i64 2, i64 2, i64 4, i64 4, i64 2, i64 3, .slice (some ⟨x.1, 0, none⟩) 4 4, .slice (some ⟨x.2, 0, none⟩) 4 4], intsO x.1 [-1, 0, 1, 0], intsO x.2 [20, 10, 8, 5]] w4 from hs)
 clear hs
 clear hcl hcp qb
 obtain ⟨_, ⟨hb, _⟩, _⟩ := St.get (show St w [Ass.blk cb 24 [i64 2, i64 2, i64 4, i64 4, i64 2, i64 3, .slice (some ⟨x.1, 0, none⟩) 4 4, .slice (some ⟨x.2, 0, none⟩) 4 4], r12O p14 z (start12 p14 (freshW 2 3 4 [20, 10, 8, 5]) []), refO y.2 y.1 (freshW 2 3 4 [20, 10, 8, 5]) [], intsO x.1 [-1, 0, 1, 0], intsO x.2 [20, 10, 8, 5]] w4 from (St.pick (show St w [r12O p14 z (start12 p14 (freshW 2 3 4 [20, 10, 8, 5]) []), refO y.2 y.1 (freshW 2 3 4 [20, 10, 8, 5]) [], Ass.blk cb 24 [i64 2, i64 2, i64 4, i64 4, i64 2, i64 3, .slice (some ⟨x.1, 0, none⟩) 4 4, .slice (some ⟨x.2, 0, none⟩) 4 4], intsO x.1 [-1, 0, 1, 0], intsO x.2 [20, 10, 8, 5]] w4 from by repeat (with_reducible first | exact HS.out | apply St.alloc | apply St.drewN | apply St.drew)) 2 (by simp)))
 have qb := hb.k8
 clear hb
 go_wp2_with fail
 refine Calls.mono (St.call (q := Ass.star (refO y.2 y.1 fw14 T.L) (r12O p14 z T)) (St.pair (show St w [refO y.2 y.1 (freshW 2 3 4 [20, 10, 8, 5]) [], r12O p14 z (start12 p14 (freshW 2 3 4 [20, 10, 8, 5]) []), Ass.blk cb 24 [i64 2, i64 2, i64 4, i64 4, i64 2, i64 3, .slice (some ⟨x.1, 0, none⟩) 4 4, .slice (some ⟨x.2, 0, none⟩) 4 4], intsO x.1 [-1, 0, 1, 0], intsO x.2 [20, 10, 8, 5]] _ from (St.pick (show St w [r12O p14 z (start12 p14 (freshW 2 3 4 [20, 10, 8, 5]) []), refO y.2 y.1 (freshW 2 3 4 [20, 10, 8, 5]) [], Ass.blk cb 24 [i64 2, i64 2, i64 4, i64 4, i64 2, i64 3, .slice (some ⟨x.1, 0, none⟩) 4 4, .slice (some ⟨x.2, 0, none⟩) 4 4], intsO x.1 [-1, 0, 1, 0], intsO x.2 [20, 10, 8, 5]] _ from by repeat (with_reducible first | exact HS.out | apply St.alloc | apply St.drewN | apply St.drew)) 1 (by simp)))) (fun Rq hr hz => hplay y.1 y.2 z _ _ hr)) ?_
 rintro e w5 ⟨rfl, hs⟩
 clear HS
 have HS := hid (show St w [refO y.2 y.1 fw14 T.L, r12O p14 z T, Ass.blk cb 24 [i64 2, i64 2, i64 4, i64 4, i64 2, i64 3, .slice (some ⟨x.1, 0, none⟩) 4 4, .slice (some ⟨x.2, 0, none⟩) 4 4], intsO x.1 [-1, 0, 1, 0], intsO x.2 [20, 10, 8, 5]] w5 from St.part hs)
 clear hs
 have hs := St.drop (show St w [r12O p14 z T, refO y.2 y.1 fw14 T.L, Ass.blk cb 24 [i64 2, i64 2, i64 4, i64 4, i64 2, i64 3, .slice (some ⟨x.1, 0, none⟩) 4 4, .slice (some ⟨x.2, 0, none⟩) 4 4], intsO x.1 [-1, 0, 1, 0], intsO x.2 [20, 10, 8, 5]] w5 from (St.pick (show St w [refO y.2 y.1 fw14 T.L, r12O p14 z T, Ass.blk cb 24 [i64 2, i64 2, i64 4, i64 4, i64 2, i64 3, .slice (some ⟨x.1, 0, none⟩) 4 4, .slice (some ⟨x.2, 0, none⟩) 4 4], intsO x.1 [-1, 0, 1, 0], intsO x.2 [20, 10, 8, 5]] w5 from by repeat (with_reducible first | exact HS.out | apply St.alloc | apply St.drewN | apply St.drew)) 1 (by simp)))
 clear HS
 have HS := hid hs
 clear hs
 clear qb
 obtain ⟨wb, wc, lv0, hmb, hcap, hs⟩ := St.words (show St w [refO y.2 y.1 fw14 T.L, Ass.blk cb 24 [i64 2, i64 2, i64 4, i64 4, i64 2, i64 3, .slice (some ⟨x.1, 0, none⟩) 4 4, .slice (some ⟨x.2, 0, none⟩) 4 4], intsO x.1 [-1, 0, 1, 0], intsO x.2 [20, 10, 8, 5]] w5 from (show St w [refO y.2 y.1 fw14 T.L, Ass.blk cb 24 [i64 2, i64 2, i64 4, i64 4, i64 2, i64 3, .slice (some ⟨x.1, 0, none⟩) 4 4, .slice (some ⟨x.2, 0, none⟩) 4 4], intsO x.1 [-1, 0, 1, 0], intsO x.2 [20, 10, 8, 5]] w5 from by repeat (with_reducible first | exact HS.out | apply St.alloc | apply St.drewN | apply St.drew))) (by decide)
 have HS := hid hs
 have HMB := hid hmb
 have qm := hmb.k2
 clear hs hmb
 obtain ⟨_, ⟨hb, _⟩, _⟩ := St.get (show St w [Ass.blk cb 24 [i64 2, i64 2, i64 4, i64 4, i64 2, i64 3, .slice (some ⟨x.1, 0, none⟩) 4 4, .slice (some ⟨x.2, 0, none⟩) 4 4], intsO wb fw14, intsO x.1 [-1, 0, 1, 0], intsO x.2 [20, 10, 8, 5]] w5 from (St.pick (show St w [intsO wb fw14, Ass.blk cb 24 [i64 2, i64 2, i64 4, i64 4, i64 2, i64 3, .slice (some ⟨x.1, 0, none⟩) 4 4, .slice (some ⟨x.2, 0, none⟩) 4 4], intsO x.1 [-1, 0, 1, 0], intsO x.2 [20, 10, 8, 5]] w5 from by repeat (with_reducible first | exact HS.out | apply St.alloc | apply St.drewN | apply St.drew)) 1 (by simp)))
 have qb := hb.k8
 clear hb
 have hcw := St.cells (show St w [intsO wb fw14, Ass.blk cb 24 [i64 2, i64 2, i64 4, i64 4, i64 2, i64 3, .slice (some ⟨x.1, 0, none⟩) 4 4, .slice (some ⟨x.2, 0, none⟩) 4 4], intsO x.1 [-1, 0, 1, 0], intsO x.2 [20, 10, 8, 5]] w5 from (show St w [intsO wb fw14, Ass.blk cb 24 [i64 2, i64 2, i64 4, i64 4, i64 2, i64 3, .slice (some ⟨x.1, 0, none⟩) 4 4, .slice (some ⟨x.2, 0, none⟩) 4 4], intsO x.1 [-1, 0, 1, 0], intsO x.2 [20, 10, 8, 5]] w5 from by repeat (with_reducible first | exact HS.out | apply St.alloc | apply St.drewN | apply St.drew)))
 go_wp2_with fail
 refine Calls.mono (show Calls Tryz.prog 20 #[.agg #[i64 2, i64 2, i64 4, i64 4, i64 2, i64 3, .slice (some ⟨x.1, 0, none⟩) 4 4, .slice (some ⟨x.2, 0, none⟩) 4 4], .slice (some ⟨wb, 0, none⟩) 46 wc, i64 0] w5 (Ret (.tuple #[i64 2, i64 4, .bool true]) w5) from by have h : Calls Tryz.prog 20 #[.agg #[i64 2, i64 2, i64 4, i64 4, i64 2, i64 3, .slice (some ⟨x.1, 0, none⟩) 4 4, .slice (some ⟨x.2, 0, none⟩) 4 4], .slice (some ⟨wb, 0, none⟩) 46 wc, i64 0] w5 (Ret (.tuple #[i64 (lvV 4 fw14 40 : Nat), i64 (lvN 4 fw14 40), .bool (lvB 4 fw14 40)]) w5) := usage_Live 2 4 4 2 2 3 ([-1, 0, 1, 0] : List Int) x.1 0 4 (some ⟨x.2, 0, none⟩) 4 4 fw14 wb 0 wc 40 0 w5 (by decide) (by decide) (by decide) (by decide) (by decide) (by decide) (by decide) (by decide) hcw; rw [use14.2.1, use14.2.2.1, use14.1] at h; exact h) ?_
 rintro e w6 ⟨rfl, hk⟩
 have hs := St.keep (show St w [intsO wb fw14, Ass.blk cb 24 [i64 2, i64 2, i64 4, i64 4, i64 2, i64 3, .slice (some ⟨x.1, 0, none⟩) 4 4, .slice (some ⟨x.2, 0, none⟩) 4 4], intsO x.1 [-1, 0, 1, 0], intsO x.2 [20, 10, 8, 5]] _ from by repeat (with_reducible first | exact HS.out | apply St.alloc | apply St.drewN | apply St.drew)) hk
 clear HS
 have HS := hid (show St w [intsO wb fw14, Ass.blk cb 24 [i64 2, i64 2, i64 4, i64 4, i64 2, i64 3, .slice (some ⟨x.1, 0, none⟩) 4 4, .slice (some ⟨x.2, 0, none⟩) 4 4], intsO x.1 [-1, 0, 1, 0], intsO x.2 [20, 10, 8, 5]] w6 from hs)
 clear hs hk
 clear qb hcw qm
 obtain ⟨_, ⟨hb, _⟩, _⟩ := St.get (show St w [Ass.blk cb 24 [i64 2, i64 2, i64 4, i64 4, i64 2, i64 3, .slice (some ⟨x.1, 0, none⟩) 4 4, .slice (some ⟨x.2, 0, none⟩) 4 4], intsO wb fw14, intsO x.1 [-1, 0, 1, 0], intsO x.2 [20, 10, 8, 5]] w6 from (St.pick (show St w [intsO wb fw14, Ass.blk cb 24 [i64 2, i64 2, i64 4, i64 4, i64 2, i64 3, .slice (some ⟨x.1, 0, none⟩) 4 4, .slice (some ⟨x.2, 0, none⟩) 4 4], intsO x.1 [-1, 0, 1, 0], intsO x.2 [20, 10, 8, 5]] w6 from by repeat (with_reducible first | exact HS.out | apply St.alloc | apply St.drewN | apply St.drew)) 1 (by simp)))
 have qb := hb.k8
 clear hb
 have hcw := St.cells (show St w [intsO wb fw14, Ass.blk cb 24 [i64 2, i64 2, i64 4, i64 4, i64 2, i64 3, .slice (some ⟨x.1, 0, none⟩) 4 4, .slice (some ⟨x.2, 0, none⟩) 4 4], intsO x.1 [-1, 0, 1, 0], intsO x.2 [20, 10, 8, 5]] w6 from (show St w [intsO wb fw14, Ass.blk cb 24 [i64 2, i64 2, i64 4, i64 4, i64 2, i64 3, .slice (some ⟨x.1, 0, none⟩) 4 4, .slice (some ⟨x.2, 0, none⟩) 4 4], intsO x.1 [-1, 0, 1, 0], intsO x.2 [20, 10, 8, 5]] w6 from by repeat (with_reducible first | exact HS.out | apply St.alloc | apply St.drewN | apply St.drew)))
 go_wp2_with fail
 refine Calls.mono (show Calls Tryz.prog 20 #[.agg #[i64 2, i64 2, i64 4, i64 4, i64 2, i64 3, .slice (some ⟨x.1, 0, none⟩) 4 4, .slice (some ⟨x.2, 0, none⟩) 4 4], .slice (some ⟨wb, 0, none⟩) 46 wc, i64 1] w6 (Ret (.tuple #[i64 0, i64 0, .bool false]) w6) from by have h : Calls Tryz.prog 20 #[.agg #[i64 2, i64 2, i64 4, i64 4, i64 2, i64 3, .slice (some ⟨x.1, 0, none⟩) 4 4, .slice (some ⟨x.2, 0, none⟩) 4 4], .slice (some ⟨wb, 0, none⟩) 46 wc, i64 1] w6 (Ret (.tuple #[i64 (lvV 4 fw14 42 : Nat), i64 (lvN 4 fw14 42), .bool (lvB 4 fw14 42)]) w6) := usage_Live 2 4 4 2 2 3 ([-1, 0, 1, 0] : List Int) x.1 0 4 (some ⟨x.2, 0, none⟩) 4 4 fw14 wb 0 wc 40 1 w6 (by decide) (by decide) (by decide) (by decide) (by decide) (by decide) (by decide) (by decide) hcw; rw [use14.2.2.2.2.1, use14.2.2.2.2.2.1, use14.2.2.2.1] at h; exact h) ?_
 rintro e w7 ⟨rfl, hk⟩
 have hs := St.keep (show St w [intsO wb fw14, Ass.blk cb 24 [i64 2, i64 2, i64 4, i64 4, i64 2, i64 3, .slice (some ⟨x.1, 0, none⟩) 4 4, .slice (some ⟨x.2, 0, none⟩) 4 4], intsO x.1 [-1, 0, 1, 0], intsO x.2 [20, 10, 8, 5]] _ from by repeat (with_reducible first | exact HS.out | apply St.alloc | apply St.drewN | apply St.drew)) hk
 clear HS
 have HS := hid (show St w [intsO wb fw14, Ass.blk cb 24 [i64 2, i64 2, i64 4, i64 4, i64 2, i64 3, .slice (some ⟨x.1, 0, none⟩) 4 4, .slice (some ⟨x.2, 0, none⟩) 4 4], intsO x.1 [-1, 0, 1, 0], intsO x.2 [20, 10, 8, 5]] w7 from hs)
 clear hs hk
 clear qb hcw
 have hcw := St.cells (show St w [intsO wb fw14, Ass.blk cb 24 [i64 2, i64 2, i64 4, i64 4, i64 2, i64 3, .slice (some ⟨x.1, 0, none⟩) 4 4, .slice (some ⟨x.2, 0, none⟩) 4 4], intsO x.1 [-1, 0, 1, 0], intsO x.2 [20, 10, 8, 5]] w7 from (show St w [intsO wb fw14, Ass.blk cb 24 [i64 2, i64 2, i64 4, i64 4, i64 2, i64 3, .slice (some ⟨x.1, 0, none⟩) 4 4, .slice (some ⟨x.2, 0, none⟩) 4 4], intsO x.1 [-1, 0, 1, 0], intsO x.2 [20, 10, 8, 5]] w7 from by repeat (with_reducible first | exact HS.out | apply St.alloc | apply St.drewN | apply St.drew)))
 go_wp2_with fail
 refine Calls.mono (St.newx (q := fun (a : Nat × Nat) => memO a.2 a.1 fw14 []) (show St w [intsO wb fw14, Ass.blk cb 24 [i64 2, i64 2, i64 4, i64 4, i64 2, i64 3, .slice (some ⟨x.1, 0, none⟩) 4 4, .slice (some ⟨x.2, 0, none⟩) 4 4], intsO x.1 [-1, 0, 1, 0], intsO x.2 [20, 10, 8, 5]] _ from (show St w [intsO wb fw14, Ass.blk cb 24 [i64 2, i64 2, i64 4, i64 4, i64 2, i64 3, .slice (some ⟨x.1, 0, none⟩) 4 4, .slice (some ⟨x.2, 0, none⟩) 4 4], intsO x.1 [-1, 0, 1, 0], intsO x.2 [20, 10, 8, 5]] _ from by repeat (with_reducible first | exact HS.out | apply St.alloc | apply St.drewN | apply St.drew))) (show Calls Tryz.prog 24 #[.slice (some ⟨wb, 0, none⟩) 46 wc] w7 _ from memO_Laid w7 wb wc fw14 hcw (by decide))) ?_
 rintro e w8 ⟨a, rfl, hs⟩
 clear HS
 have HS := hid (show St w [memO a.2 a.1 fw14 [], intsO wb fw14, Ass.blk cb 24 [i64 2, i64 2, i64 4, i64 4, i64 2, i64 3, .slice (some ⟨x.1, 0, none⟩) 4 4, .slice (some ⟨x.2, 0, none⟩) 4 4], intsO x.1 [-1, 0, 1, 0], intsO x.2 [20, 10, 8, 5]] w8 from hs)
 clear hs
 clear hcw
 obtain ⟨_, ⟨hb, _⟩, _⟩ := St.get (show St w [Ass.blk cb 24 [i64 2, i64 2, i64 4, i64 4, i64 2, i64 3, .slice (some ⟨x.1, 0, none⟩) 4 4, .slice (some ⟨x.2, 0, none⟩) 4 4], memO a.2 a.1 fw14 [], intsO wb fw14, intsO x.1 [-1, 0, 1, 0], intsO x.2 [20, 10, 8, 5]] w8 from (St.pick (show St w [memO a.2 a.1 fw14 [], intsO wb fw14, Ass.blk cb 24 [i64 2, i64 2, i64 4, i64 4, i64 2, i64 3, .slice (some ⟨x.1, 0, none⟩) 4 4, .slice (some ⟨x.2, 0, none⟩) 4 4], intsO x.1 [-1, 0, 1, 0], intsO x.2 [20, 10, 8, 5]] w8 from by repeat (with_reducible first | exact HS.out | apply St.alloc | apply St.drewN | apply St.drew)) 2 (by simp)))
 have qb := hb.k8
 clear hb
 go_wp2_with fail
 refine Calls.mono (St.newx (q := fun c => snO 14 2 c ⟨fw14, [], 2, [], 0, false, false⟩) (show St w [memO a.2 a.1 fw14 [], intsO wb fw14, Ass.blk cb 24 [i64 2, i64 2, i64 4, i64 4, i64 2, i64 3, .slice (some ⟨x.1, 0, none⟩) 4 4, .slice (some ⟨x.2, 0, none⟩) 4 4], intsO x.1 [-1, 0, 1, 0], intsO x.2 [20, 10, 8, 5]] _ from (show St w [memO a.2 a.1 fw14 [], intsO wb fw14, Ass.blk cb 24 [i64 2, i64 2, i64 4, i64 4, i64 2, i64 3, .slice (some ⟨x.1, 0, none⟩) 4 4, .slice (some ⟨x.2, 0, none⟩) 4 4], intsO x.1 [-1, 0, 1, 0], intsO x.2 [20, 10, 8, 5]] _ from by repeat (with_reducible first | exact HS.out | apply St.alloc | apply St.drewN | apply St.drew))) (usage_Count 2 2 4 4 2 3 (some ⟨x.1, 0, none⟩) 4 4 (some ⟨x.2, 0, none⟩) 4 4 1 14 _ fw14 [] (by decide) (by decide) (by decide) (by decide) (by decide))) ?_
 rintro e w9 ⟨c, rfl, hs⟩
 clear HS
 have HS := hid (show St w [snO 14 2 c ⟨fw14, [], 2, [], 0, false, false⟩, memO a.2 a.1 fw14 [], intsO wb fw14, Ass.blk cb 24 [i64 2, i64 2, i64 4, i64 4, i64 2, i64 3, .slice (some ⟨x.1, 0, none⟩) 4 4, .slice (some ⟨x.2, 0, none⟩) 4 4], intsO x.1 [-1, 0, 1, 0], intsO x.2 [20, 10, 8, 5]] w9 from hs)
 clear hs
 clear qb
 go_wp2_with fail
 refine Calls.mono (St.call (q := Ass.star (memO a.2 a.1 fw14 Lc) (snO 14 2 c Tc)) (St.pair (show St w [memO a.2 a.1 fw14 [], snO 14 2 c ⟨fw14, [], 2, [], 0, false, false⟩, intsO wb fw14, Ass.blk cb 24 [i64 2, i64 2, i64 4, i64 4, i64 2, i64 3, .slice (some ⟨x.1, 0, none⟩) 4 4, .slice (some ⟨x.2, 0, none⟩) 4 4], intsO x.1 [-1, 0, 1, 0], intsO x.2 [20, 10, 8, 5]] _ from (St.pick (show St w [snO 14 2 c ⟨fw14, [], 2, [], 0, false, false⟩, memO a.2 a.1 fw14 [], intsO wb fw14, Ass.blk cb 24 [i64 2, i64 2, i64 4, i64 4, i64 2, i64 3, .slice (some ⟨x.1, 0, none⟩) 4 4, .slice (some ⟨x.2, 0, none⟩) 4 4], intsO x.1 [-1, 0, 1, 0], intsO x.2 [20, 10, 8, 5]] _ from by repeat (with_reducible first | exact HS.out | apply St.alloc | apply St.drewN | apply St.drew)) 1 (by simp)))) (fun Rq hr hz => hcount a.1 a.2 c _ _ hr)) ?_
 rintro e w10 ⟨rfl, hs⟩
 clear HS
 have HS := hid (show St w [memO a.2 a.1 fw14 Lc, snO 14 2 c Tc, intsO wb fw14, Ass.blk cb 24 [i64 2, i64 2, i64 4, i64 4, i64 2, i64 3, .slice (some ⟨x.1, 0, none⟩) 4 4, .slice (some ⟨x.2, 0, none⟩) 4 4], intsO x.1 [-1, 0, 1, 0], intsO x.2 [20, 10, 8, 5]] w10 from St.part hs)
 clear hs
 obtain ⟨_, ⟨hb, _⟩, _⟩ := St.get (show St w [Ass.blk cb 24 [i64 2, i64 2, i64 4, i64 4, i64 2, i64 3, .slice (some ⟨x.1, 0, none⟩) 4 4, .slice (some ⟨x.2, 0, none⟩) 4 4], memO a.2 a.1 fw14 Lc, snO 14 2 c Tc, intsO wb fw14, intsO x.1 [-1, 0, 1, 0], intsO x.2 [20, 10, 8, 5]] w10 from (St.pick (show St w [memO a.2 a.1 fw14 Lc, snO 14 2 c Tc, intsO wb fw14, Ass.blk cb 24 [i64 2, i64 2, i64 4, i64 4, i64 2, i64 3, .slice (some ⟨x.1, 0, none⟩) 4 4, .slice (some ⟨x.2, 0, none⟩) 4 4], intsO x.1 [-1, 0, 1, 0], intsO x.2 [20, 10, 8, 5]] w10 from by repeat (with_reducible first | exact HS.out | apply St.alloc | apply St.drewN | apply St.drew)) 3 (by simp)))
 have qb := hb.k8
 clear hb
 go_wp2_with fail
 refine Calls.mono (St.newx (q := fun d => pkO 14 d ⟨fw14, Lc, 0, [], 0, false, false⟩) (show St w [memO a.2 a.1 fw14 Lc, snO 14 2 c Tc, intsO wb fw14, Ass.blk cb 24 [i64 2, i64 2, i64 4, i64 4, i64 2, i64 3, .slice (some ⟨x.1, 0, none⟩) 4 4, .slice (some ⟨x.2, 0, none⟩) 4 4], intsO x.1 [-1, 0, 1, 0], intsO x.2 [20, 10, 8, 5]] _ from (show St w [memO a.2 a.1 fw14 Lc, snO 14 2 c Tc, intsO wb fw14, Ass.blk cb 24 [i64 2, i64 2, i64 4, i64 4, i64 2, i64 3, .slice (some ⟨x.1, 0, none⟩) 4 4, .slice (some ⟨x.2, 0, none⟩) 4 4], intsO x.1 [-1, 0, 1, 0], intsO x.2 [20, 10, 8, 5]] _ from by repeat (with_reducible first | exact HS.out | apply St.alloc | apply St.drewN | apply St.drew))) (usage_Peek 2 2 4 4 2 3 (some ⟨x.1, 0, none⟩) 4 4 (some ⟨x.2, 0, none⟩) 4 4 1 14 _ fw14 Lc (by decide) (by decide) (by decide) (by decide) (by decide))) ?_
 rintro e w11 ⟨d, rfl, hs⟩
 clear HS
 have HS := hid (show St w [pkO 14 d ⟨fw14, Lc, 0, [], 0, false, false⟩, memO a.2 a.1 fw14 Lc, snO 14 2 c Tc, intsO wb fw14, Ass.blk cb 24 [i64 2, i64 2, i64 4, i64 4, i64 2, i64 3, .slice (some ⟨x.1, 0, none⟩) 4 4, .slice (some ⟨x.2, 0, none⟩) 4 4], intsO x.1 [-1, 0, 1, 0], intsO x.2 [20, 10, 8, 5]] w11 from hs)
 clear hs
 clear qb
 go_wp2_with fail
 refine Calls.mono (St.call (q := Ass.star (memO a.2 a.1 fw14 Ld) (pkO 14 d Td)) (St.pair (show St w [memO a.2 a.1 fw14 Lc, pkO 14 d ⟨fw14, Lc, 0, [], 0, false, false⟩, snO 14 2 c Tc, intsO wb fw14, Ass.blk cb 24 [i64 2, i64 2, i64 4, i64 4, i64 2, i64 3, .slice (some ⟨x.1, 0, none⟩) 4 4, .slice (some ⟨x.2, 0, none⟩) 4 4], intsO x.1 [-1, 0, 1, 0], intsO x.2 [20, 10, 8, 5]] _ from (St.pick (show St w [pkO 14 d ⟨fw14, Lc, 0, [], 0, false, false⟩, memO a.2 a.1 fw14 Lc, snO 14 2 c Tc, intsO wb fw14, Ass.blk cb 24 [i64 2, i64 2, i64 4, i64 4, i64 2, i64 3, .slice (some ⟨x.1, 0, none⟩) 4 4, .slice (some ⟨x.2, 0, none⟩) 4 4], intsO x.1 [-1, 0, 1, 0], intsO x.2 [20, 10, 8, 5]] _ from by repeat (with_reducible first | exact HS.out | apply St.alloc | apply St.drewN | apply St.drew)) 1 (by simp)))) (fun Rq hr hz => hpeek a.1 a.2 d _ _ hr)) ?_
 rintro e w12 ⟨rfl, hs⟩
 clear HS
 have HS := hid (show St w [memO a.2 a.1 fw14 Ld, pkO 14 d Td, snO 14 2 c Tc, intsO wb fw14, Ass.blk cb 24 [i64 2, i64 2, i64 4, i64 4, i64 2, i64 3, .slice (some ⟨x.1, 0, none⟩) 4 4, .slice (some ⟨x.2, 0, none⟩) 4 4], intsO x.1 [-1, 0, 1, 0], intsO x.2 [20, 10, 8, 5]] w12 from St.part hs)
 clear hs
 obtain ⟨_, ⟨hb, _⟩, _⟩ := St.get (show St w [Ass.blk cb 24 [i64 2, i64 2, i64 4, i64 4, i64 2, i64 3, .slice (some ⟨x.1, 0, none⟩) 4 4, .slice (some ⟨x.2, 0, none⟩) 4 4], memO a.2 a.1 fw14 Ld, pkO 14 d Td, snO 14 2 c Tc, intsO wb fw14, intsO x.1 [-1, 0, 1, 0], intsO x.2 [20, 10, 8, 5]] w12 from (St.pick (show St w [memO a.2 a.1 fw14 Ld, pkO 14 d Td, snO 14 2 c Tc, intsO wb fw14, Ass.blk cb 24 [i64 2, i64 2, i64 4, i64 4, i64 2, i64 3, .slice (some ⟨x.1, 0, none⟩) 4 4, .slice (some ⟨x.2, 0, none⟩) 4 4], intsO x.1 [-1, 0, 1, 0], intsO x.2 [20, 10, 8, 5]] w12 from by repeat (with_reducible first | exact HS.out | apply St.alloc | apply St.drewN | apply St.drew)) 4 (by simp)))
 have qb := hb.k8
 clear hb
 have hcw := St.cells (show St w [intsO wb fw14, memO a.2 a.1 fw14 Ld, pkO 14 d Td, snO 14 2 c Tc, Ass.blk cb 24 [i64 2, i64 2, i64 4, i64 4, i64 2, i64 3, .slice (some ⟨x.1, 0, none⟩) 4 4, .slice (some ⟨x.2, 0, none⟩) 4 4], intsO x.1 [-1, 0, 1, 0], intsO x.2 [20, 10, 8, 5]] w12 from (St.pick (show St w [memO a.2 a.1 fw14 Ld, pkO 14 d Td, snO 14 2 c Tc, intsO wb fw14, Ass.blk cb 24 [i64 2, i64 2, i64 4, i64 4, i64 2, i64 3, .slice (some ⟨x.1, 0, none⟩) 4 4, .slice (some ⟨x.2, 0, none⟩) 4 4], intsO x.1 [-1, 0, 1, 0], intsO x.2 [20, 10, 8, 5]] w12 from by repeat (with_reducible first | exact HS.out | apply St.alloc | apply St.drewN | apply St.drew)) 3 (by simp)))
 have hcp := St.cells (show St w [intsO x.1 [-1, 0, 1, 0], memO a.2 a.1 fw14 Ld, pkO 14 d Td, snO 14 2 c Tc, intsO wb fw14, Ass.blk cb 24 [i64 2, i64 2, i64 4, i64 4, i64 2, i64 3, .slice (some ⟨x.1, 0, none⟩) 4 4, .slice (some ⟨x.2, 0, none⟩) 4 4], intsO x.2 [20, 10, 8, 5]] w12 from (St.pick (show St w [memO a.2 a.1 fw14 Ld, pkO 14 d Td, snO 14 2 c Tc, intsO wb fw14, Ass.blk cb 24 [i64 2, i64 2, i64 4, i64 4, i64 2, i64 3, .slice (some ⟨x.1, 0, none⟩) 4 4, .slice (some ⟨x.2, 0, none⟩) 4 4], intsO x.1 [-1, 0, 1, 0], intsO x.2 [20, 10, 8, 5]] w12 from by repeat (with_reducible first | exact HS.out | apply St.alloc | apply St.drewN | apply St.drew)) 5 (by simp)))
 go_wp2_with fail
 refine Calls.mono (show Calls Tryz.prog 15 #[.agg #[i64 2, i64 2, i64 4, i64 4, i64 2, i64 3, .slice (some ⟨x.1, 0, none⟩) 4 4, .slice (some ⟨x.2, 0, none⟩) 4 4], .slice (some ⟨wb, 0, none⟩) 46 wc, i64 0] w12 (Ret (i64 4) w12) from by have h : Calls Tryz.prog 15 #[.agg #[i64 2, i64 2, i64 4, i64 4, i64 2, i64 3, .slice (some ⟨x.1, 0, none⟩) 4 4, .slice (some ⟨x.2, 0, none⟩) 4 4], .slice (some ⟨wb, 0, none⟩) 46 wc, i64 0] w12 (Ret (i64 (usedN [-1, 0, 1, 0] fw14 40 3 0)) w12) := usage_Used 2 4 4 2 2 3 ([-1, 0, 1, 0] : List Int) x.1 0 4 (some ⟨x.2, 0, none⟩) 4 4 fw14 wb 0 wc 40 0 w12 (by decide) (by decide) (by decide) (by decide) par14.ok (by decide) (by decide) (by decide) hcp hcw; rw [use14.2.2.2.2.2.2.1] at h; exact h) ?_
 rintro e w13 ⟨rfl, hk⟩
 have hs := St.keep (show St w [memO a.2 a.1 fw14 Ld, pkO 14 d Td, snO 14 2 c Tc, intsO wb fw14, Ass.blk cb 24 [i64 2, i64 2, i64 4, i64 4, i64 2, i64 3, .slice (some ⟨x.1, 0, none⟩) 4 4, .slice (some ⟨x.2, 0, none⟩) 4 4], intsO x.1 [-1, 0, 1, 0], intsO x.2 [20, 10, 8, 5]] _ from by repeat (with_reducible first | exact HS.out | apply St.alloc | apply St.drewN | apply St.drew)) hk
 clear HS
 have HS := hid (show St w [memO a.2 a.1 fw14 Ld, pkO 14 d Td, snO 14 2 c Tc, intsO wb fw14, Ass.blk cb 24 [i64 2, i64 2, i64 4, i64 4, i64 2, i64 3, .slice (some ⟨x.1, 0, none⟩) 4 4, .slice (some ⟨x.2, 0, none⟩) 4 4], intsO x.1 [-1, 0, 1, 0], intsO x.2 [20, 10, 8, 5]] w13 from hs)
 clear hs hk
 clear qb hcw hcp
 obtain ⟨_, ⟨hb, _⟩, _⟩ := St.get (show St w [Ass.blk cb 24 [i64 2, i64 2, i64 4, i64 4, i64 2, i64 3, .slice (some ⟨x.1, 0, none⟩) 4 4, .slice (some ⟨x.2, 0, none⟩) 4 4], memO a.2 a.1 fw14 Ld, pkO 14 d Td, snO 14 2 c Tc, intsO wb fw14, intsO x.1 [-1, 0, 1, 0], intsO x.2 [20, 10, 8, 5]] w13 from (St.pick (show St w [memO a.2 a.1 fw14 Ld, pkO 14 d Td, snO 14 2 c Tc, intsO wb fw14, Ass.blk cb 24 [i64 2, i64 2, i64 4, i64 4, i64 2, i64 3, .slice (some ⟨x.1, 0, none⟩) 4 4, .slice (some ⟨x.2, 0, none⟩) 4 4], intsO x.1 [-1, 0, 1, 0], intsO x.2 [20, 10, 8, 5]] w13 from by repeat (with_reducible first | exact HS.out | apply St.alloc | apply St.drewN | apply St.drew)) 4 (by simp)))
 have qb := hb.k8
 clear hb
 have hcw := St.cells (show St w [intsO wb fw14, memO a.2 a.1 fw14 Ld, pkO 14 d Td, snO 14 2 c Tc, Ass.blk cb 24 [i64 2, i64 2, i64 4, i64 4, i64 2, i64 3, .slice (some ⟨x.1, 0, none⟩) 4 4, .slice (some ⟨x.2, 0, none⟩) 4 4], intsO x.1 [-1, 0, 1, 0], intsO x.2 [20, 10, 8, 5]] w13 from (St.pick (show St w [memO a.2 a.1 fw14 Ld, pkO 14 d Td, snO 14 2 c Tc, intsO wb fw14, Ass.blk cb 24 [i64 2, i64 2, i64 4, i64 4, i64 2, i64 3, .slice (some ⟨x.1, 0, none⟩) 4 4, .slice (some ⟨x.2, 0, none⟩) 4 4], intsO x.1 [-1, 0, 1, 0], intsO x.2 [20, 10, 8, 5]] w13 from by repeat (with_reducible first | exact HS.out | apply St.alloc | apply St.drewN | apply St.drew)) 3 (by simp)))
 have hcp := St.cells (show St w [intsO x.1 [-1, 0, 1, 0], memO a.2 a.1 fw14 Ld, pkO 14 d Td, snO 14 2 c Tc, intsO wb fw14, Ass.blk cb 24 [i64 2, i64 2, i64 4, i64 4, i64 2, i64 3, .slice (some ⟨x.1, 0, none⟩) 4 4, .slice (some ⟨x.2, 0, none⟩) 4 4], intsO x.2 [20, 10, 8, 5]] w13 from (St.pick (show St w [memO a.2 a.1 fw14 Ld, pkO 14 d Td, snO 14 2 c Tc, intsO wb fw14, Ass.blk cb 24 [i64 2, i64 2, i64 4, i64 4, i64 2, i64 3, .slice (some ⟨x.1, 0, none⟩) 4 4, .slice (some ⟨x.2, 0, none⟩) 4 4], intsO x.1 [-1, 0, 1, 0], intsO x.2 [20, 10, 8, 5]] w13 from by repeat (with_reducible first | exact HS.out | apply St.alloc | apply St.drewN | apply St.drew)) 5 (by simp)))
 go_wp2_with fail
 refine Calls.mono (show Calls Tryz.prog 15 #[.agg #[i64 2, i64 2, i64 4, i64 4, i64 2, i64 3, .slice (some ⟨x.1, 0, none⟩) 4 4, .slice (some ⟨x.2, 0, none⟩) 4 4], .slice (some ⟨wb, 0, none⟩) 46 wc, i64 3] w13 (Ret (i64 0) w13) from by have h : Calls Tryz.prog 15 #[.agg #[i64 2, i64 2, i64 4, i64 4, i64 2, i64 3, .slice (some ⟨x.1, 0, none⟩) 4 4, .slice (some ⟨x.2, 0, none⟩) 4 4], .slice (some ⟨wb, 0, none⟩) 46 wc, i64 3] w13 (Ret (i64 (usedN [-1, 0, 1, 0] fw14 40 3 3)) w13) := usage_Used 2 4 4 2 2 3 ([-1, 0, 1, 0] : List Int) x.1 0 4 (some ⟨x.2, 0, none⟩) 4 4 fw14 wb 0 wc 40 3 w13 (by decide) (by decide) (by decide) (by decide) par14.ok (by decide) (by decide) (by decide) hcp hcw; rw [use14.2.2.2.2.2.2.2.1] at h; exact h) ?_
 rintro e w14 ⟨rfl, hk⟩
 have hs := St.keep (show St w [memO a.2 a.1 fw14 Ld, pkO 14 d Td, snO 14 2 c Tc, intsO wb fw14, Ass.blk cb 24 [i64 2, i64 2, i64 4, i64 4, i64 2, i64 3, .slice (some ⟨x.1, 0, none⟩) 4 4, .slice (some ⟨x.2, 0, none⟩) 4 4], intsO x.1 [-1, 0, 1, 0], intsO x.2 [20, 10, 8, 5]] _ from by repeat (with_reducible first | exact HS.out | apply St.alloc | apply St.drewN | apply St.drew)) hk
 clear HS
 have HS := hid (show St w [memO a.2 a.1 fw14 Ld, pkO 14 d Td, snO 14 2 c Tc, intsO wb fw14, Ass.blk cb 24 [i64 2, i64 2, i64 4, i64 4, i64 2, i64 3, .slice (some ⟨x.1, 0, none⟩) 4 4, .slice (some ⟨x.2, 0, none⟩) 4 4], intsO x.1 [-1, 0, 1, 0], intsO x.2 [20, 10, 8, 5]] w14 from hs)
 clear hs hk
 clear qb hcw hcp
 obtain ⟨_, ⟨hb, _⟩, _⟩ := St.get (show St w [Ass.blk cb 24 [i64 2, i64 2, i64 4, i64 4, i64 2, i64 3, .slice (some ⟨x.1, 0, none⟩) 4 4, .slice (some ⟨x.2, 0, none⟩) 4 4], memO a.2 a.1 fw14 Ld, pkO 14 d Td, snO 14 2 c Tc, intsO wb fw14, intsO x.1 [-1, 0, 1, 0], intsO x.2 [20, 10, 8, 5]] w14 from (St.pick (show St w [memO a.2 a.1 fw14 Ld, pkO 14 d Td, snO 14 2 c Tc, intsO wb fw14, Ass.blk cb 24 [i64 2, i64 2, i64 4, i64 4, i64 2, i64 3, .slice (some ⟨x.1, 0, none⟩) 4 4, .slice (some ⟨x.2, 0, none⟩) 4 4], intsO x.1 [-1, 0, 1, 0], intsO x.2 [20, 10, 8, 5]] w14 from by repeat (with_reducible first | exact HS.out | apply St.alloc | apply St.drewN | apply St.drew)) 4 (by simp)))
 have qb := hb.k8
 clear hb
 have hcw := St.cells (show St w [intsO wb fw14, memO a.2 a.1 fw14 Ld, pkO 14 d Td, snO 14 2 c Tc, Ass.blk cb 24 [i64 2, i64 2, i64 4, i64 4, i64 2, i64 3, .slice (some ⟨x.1, 0, none⟩) 4 4, .slice (some ⟨x.2, 0, none⟩) 4 4], intsO x.1 [-1, 0, 1, 0], intsO x.2 [20, 10, 8, 5]] w14 from (St.pick (show St w [memO a.2 a.1 fw14 Ld, pkO 14 d Td, snO 14 2 c Tc, intsO wb fw14, Ass.blk cb 24 [i64 2, i64 2, i64 4, i64 4, i64 2, i64 3, .slice (some ⟨x.1, 0, none⟩) 4 4, .slice (some ⟨x.2, 0, none⟩) 4 4], intsO x.1 [-1, 0, 1, 0], intsO x.2 [20, 10, 8, 5]] w14 from by repeat (with_reducible first | exact HS.out | apply St.alloc | apply St.drewN | apply St.drew)) 3 (by simp)))
 have hcp := St.cells (show St w [intsO x.1 [-1, 0, 1, 0], memO a.2 a.1 fw14 Ld, pkO 14 d Td, snO 14 2 c Tc, intsO wb fw14, Ass.blk cb 24 [i64 2, i64 2, i64 4, i64 4, i64 2, i64 3, .slice (some ⟨x.1, 0, none⟩) 4 4, .slice (some ⟨x.2, 0, none⟩) 4 4], intsO x.2 [20, 10, 8, 5]] w14 from (St.pick (show St w [memO a.2 a.1 fw14 Ld, pkO 14 d Td, snO 14 2 c Tc, intsO wb fw14, Ass.blk cb 24 [i64 2, i64 2, i64 4, i64 4, i64 2, i64 3, .slice (some ⟨x.1, 0, none⟩) 4 4, .slice (some ⟨x.2, 0, none⟩) 4 4], intsO x.1 [-1, 0, 1, 0], intsO x.2 [20, 10, 8, 5]] w14 from by repeat (with_reducible first | exact HS.out | apply St.alloc | apply St.drewN | apply St.drew)) 5 (by simp)))
 go_wp2_with fail
 refine Calls.mono (show Calls Tryz.prog 13 #[.agg #[i64 2, i64 2, i64 4, i64 4, i64 2, i64 3, .slice (some ⟨x.1, 0, none⟩) 4 4, .slice (some ⟨x.2, 0, none⟩) 4 4], .slice (some ⟨wb, 0, none⟩) 46 wc, i64 1] w14 (Ret (i64 0) w14) from by have h : Calls Tryz.prog 13 #[.agg #[i64 2, i64 2, i64 4, i64 4, i64 2, i64 3, .slice (some ⟨x.1, 0, none⟩) 4 4, .slice (some ⟨x.2, 0, none⟩) 4 4], .slice (some ⟨wb, 0, none⟩) 46 wc, i64 1] w14 (Ret (i64 (wrap64 (rd fw14 10 - leftN fw14 11 2 - usedN [-1, 0, 1, 0] fw14 40 3 1))) w14) := usage_Held 2 4 4 2 2 3 ([-1, 0, 1, 0] : List Int) x.1 0 4 (some ⟨x.2, 0, none⟩) 4 4 fw14 wb 0 wc 40 1 w14 (by decide) (by decide) (by decide) (by decide) par14.ok (by decide) (by decide) (by decide) hcp hcw (by decide) hcap; rw [use14.2.2.2.2.2.2.2.2.1, use14.2.2.2.2.2.2.2.2.2, show wrap64 (rd fw14 10 - 6 - 4) = 0 from by kernel_rfl] at h; exact h) ?_
 rintro e w15 ⟨rfl, hk⟩
 have hs := St.keep (show St w [memO a.2 a.1 fw14 Ld, pkO 14 d Td, snO 14 2 c Tc, intsO wb fw14, Ass.blk cb 24 [i64 2, i64 2, i64 4, i64 4, i64 2, i64 3, .slice (some ⟨x.1, 0, none⟩) 4 4, .slice (some ⟨x.2, 0, none⟩) 4 4], intsO x.1 [-1, 0, 1, 0], intsO x.2 [20, 10, 8, 5]] _ from by repeat (with_reducible first | exact HS.out | apply St.alloc | apply St.drewN | apply St.drew)) hk
 clear HS
 have HS := hid (show St w [memO a.2 a.1 fw14 Ld, pkO 14 d Td, snO 14 2 c Tc, intsO wb fw14, Ass.blk cb 24 [i64 2, i64 2, i64 4, i64 4, i64 2, i64 3, .slice (some ⟨x.1, 0, none⟩) 4 4, .slice (some ⟨x.2, 0, none⟩) 4 4], intsO x.1 [-1, 0, 1, 0], intsO x.2 [20, 10, 8, 5]] w15 from hs)
 clear hs hk
 clear qb hcw hcp
 obtain ⟨_, hx, _⟩ := St.get (show St w [snO 14 2 c Tc, memO a.2 a.1 fw14 Ld, pkO 14 d Td, intsO wb fw14, Ass.blk cb 24 [i64 2, i64 2, i64 4, i64 4, i64 2, i64 3, .slice (some ⟨x.1, 0, none⟩) 4 4, .slice (some ⟨x.2, 0, none⟩) 4 4], intsO x.1 [-1, 0, 1, 0], intsO x.2 [20, 10, 8, 5]] w15 from (St.pick (show St w [memO a.2 a.1 fw14 Ld, pkO 14 d Td, snO 14 2 c Tc, intsO wb fw14, Ass.blk cb 24 [i64 2, i64 2, i64 4, i64 4, i64 2, i64 3, .slice (some ⟨x.1, 0, none⟩) 4 4, .slice (some ⟨x.2, 0, none⟩) 4 4], intsO x.1 [-1, 0, 1, 0], intsO x.2 [20, 10, 8, 5]] w15 from by repeat (with_reducible first | exact HS.out | apply St.alloc | apply St.drewN | apply St.drew)) 2 (by simp)))
 go_wp2_with fail
 refine Calls.mono (show Calls Tryz.prog 30 _ w15 (Ret (.agg #[i64 0, i64 4, .bool true, i64 0]) w15) from by have h := count_Ans _ hx; rw [HTC.out.1, HTC.out.2] at h; exact h) ?_
 rintro e w16 ⟨rfl, hk⟩
 have hs := St.keep (show St w [memO a.2 a.1 fw14 Ld, pkO 14 d Td, snO 14 2 c Tc, intsO wb fw14, Ass.blk cb 24 [i64 2, i64 2, i64 4, i64 4, i64 2, i64 3, .slice (some ⟨x.1, 0, none⟩) 4 4, .slice (some ⟨x.2, 0, none⟩) 4 4], intsO x.1 [-1, 0, 1, 0], intsO x.2 [20, 10, 8, 5]] _ from by repeat (with_reducible first | exact HS.out | apply St.alloc | apply St.drewN | apply St.drew)) hk
 clear HS
 have HS := hid (show St w [memO a.2 a.1 fw14 Ld, pkO 14 d Td, snO 14 2 c Tc, intsO wb fw14, Ass.blk cb 24 [i64 2, i64 2, i64 4, i64 4, i64 2, i64 3, .slice (some ⟨x.1, 0, none⟩) 4 4, .slice (some ⟨x.2, 0, none⟩) 4 4], intsO x.1 [-1, 0, 1, 0], intsO x.2 [20, 10, 8, 5]] w16 from hs)
 clear hs hk
 clear hx
 obtain ⟨_, hx, _⟩ := St.get (show St w [pkO 14 d Td, memO a.2 a.1 fw14 Ld, snO 14 2 c Tc, intsO wb fw14, Ass.blk cb 24 [i64 2, i64 2, i64 4, i64 4, i64 2, i64 3, .slice (some ⟨x.1, 0, none⟩) 4 4, .slice (some ⟨x.2, 0, none⟩) 4 4], intsO x.1 [-1, 0, 1, 0], intsO x.2 [20, 10, 8, 5]] w16 from (St.pick (show St w [memO a.2 a.1 fw14 Ld, pkO 14 d Td, snO 14 2 c Tc, intsO wb fw14, Ass.blk cb 24 [i64 2, i64 2, i64 4, i64 4, i64 2, i64 3, .slice (some ⟨x.1, 0, none⟩) 4 4, .slice (some ⟨x.2, 0, none⟩) 4 4], intsO x.1 [-1, 0, 1, 0], intsO x.2 [20, 10, 8, 5]] w16 from by repeat (with_reducible first | exact HS.out | apply St.alloc | apply St.drewN | apply St.drew)) 1 (by simp)))
 go_wp2_with fail
 refine Calls.mono (show Calls Tryz.prog 30 _ w16 (Ret (.agg #[i64 0, i64 4, .bool false, i64 0]) w16) from by have h := peek_Ans _ hx; rw [HTD.out.1, HTD.out.2] at h; exact h) ?_
 rintro e w17 ⟨rfl, hk⟩
 have hs := St.keep (show St w [memO a.2 a.1 fw14 Ld, pkO 14 d Td, snO 14 2 c Tc, intsO wb fw14, Ass.blk cb 24 [i64 2, i64 2, i64 4, i64 4, i64 2, i64 3, .slice (some ⟨x.1, 0, none⟩) 4 4, .slice (some ⟨x.2, 0, none⟩) 4 4], intsO x.1 [-1, 0, 1, 0], intsO x.2 [20, 10, 8, 5]] _ from by repeat (with_reducible first | exact HS.out | apply St.alloc | apply St.drewN | apply St.drew)) hk
 clear HS
 have HS := hid (show St w [memO a.2 a.1 fw14 Ld, pkO 14 d Td, snO 14 2 c Tc, intsO wb fw14, Ass.blk cb 24 [i64 2, i64 2, i64 4, i64 4, i64 2, i64 3, .slice (some ⟨x.1, 0, none⟩) 4 4, .slice (some ⟨x.2, 0, none⟩) 4 4], intsO x.1 [-1, 0, 1, 0], intsO x.2 [20, 10, 8, 5]] w17 from hs)
 clear hs hk
 clear hx
 obtain ⟨_, ⟨hb, _⟩, _⟩ := St.get (show St w [Ass.blk cb 24 [i64 2, i64 2, i64 4, i64 4, i64 2, i64 3, .slice (some ⟨x.1, 0, none⟩) 4 4, .slice (some ⟨x.2, 0, none⟩) 4 4], memO a.2 a.1 fw14 Ld, pkO 14 d Td, snO 14 2 c Tc, intsO wb fw14, intsO x.1 [-1, 0, 1, 0], intsO x.2 [20, 10, 8, 5]] w17 from (St.pick (show St w [memO a.2 a.1 fw14 Ld, pkO 14 d Td, snO 14 2 c Tc, intsO wb fw14, Ass.blk cb 24 [i64 2, i64 2, i64 4, i64 4, i64 2, i64 3, .slice (some ⟨x.1, 0, none⟩) 4 4, .slice (some ⟨x.2, 0, none⟩) 4 4], intsO x.1 [-1, 0, 1, 0], intsO x.2 [20, 10, 8, 5]] w17 from by repeat (with_reducible first | exact HS.out | apply St.alloc | apply St.drewN | apply St.drew)) 4 (by simp)))
 have qb := hb.k8
 clear hb
 go_wp2_with fail
 refine Calls.mono (show Calls Tryz.prog 40 #[.agg #[i64 2, i64 2, i64 4, i64 4, i64 2, i64 3, .slice (some ⟨x.1, 0, none⟩) 4 4, .slice (some ⟨x.2, 0, none⟩) 4 4]] w17 (Ret (i64 46) w17) from plan_Size 2 2 4 4 2 3 (some ⟨x.1, 0, none⟩) 4 4 (some ⟨x.2, 0, none⟩) 4 4 w17 (by decide) (by decide) (by decide) (by decide) (by decide)) ?_
 rintro e w18 ⟨rfl, hk⟩
 have hs := St.keep (show St w [memO a.2 a.1 fw14 Ld, pkO 14 d Td, snO 14 2 c Tc, intsO wb fw14, Ass.blk cb 24 [i64 2, i64 2, i64 4, i64 4, i64 2, i64 3, .slice (some ⟨x.1, 0, none⟩) 4 4, .slice (some ⟨x.2, 0, none⟩) 4 4], intsO x.1 [-1, 0, 1, 0], intsO x.2 [20, 10, 8, 5]] _ from by repeat (with_reducible first | exact HS.out | apply St.alloc | apply St.drewN | apply St.drew)) hk
 clear HS
 have HS := hid (show St w [memO a.2 a.1 fw14 Ld, pkO 14 d Td, snO 14 2 c Tc, intsO wb fw14, Ass.blk cb 24 [i64 2, i64 2, i64 4, i64 4, i64 2, i64 3, .slice (some ⟨x.1, 0, none⟩) 4 4, .slice (some ⟨x.2, 0, none⟩) 4 4], intsO x.1 [-1, 0, 1, 0], intsO x.2 [20, 10, 8, 5]] w18 from hs)
 clear hs hk
 go_wp2_with fail
 go_ret
 exact ⟨rfl, HS.out.k⟩
end Go.Proofs.YthaceckccobgeaaGreat

namespace Go.Proofs.YthaceckccobgeaaGreat
open Go.RowKit
set_option linter.unusedVariables false
set_option linter.unusedSimpArgs false
set_option maxRecDepth 100000
def rawN (W V : List Int) : Nat → List Int
 | 0 => W
 | i + 1 => (rawN W V i).set (W.length - 1 - i) (rd V i)
theorem rawN_len (W V : List Int) : ∀ i, (rawN W V i).length = W.length
 | 0 => rfl
 | i + 1 => by rw [rawN, List.length_set, rawN_len W V i]
def rawW (W V : List Int) : List Int := rawN W V (min V.length W.length)
def intsK (b c : Nat) (W : List Int) : Ass where
 At R w := (∃ cur, w.heap[b]? = some (.cells cur 3 (0, 0)) ∧ cur.size = c ∧ W.length ≤ c ∧ c ≤ maxLen ∧ cur.toList.take W.length = ints W) ∧ ∀ k, R k ↔ k = b
 st := by
  rintro R S w w' ⟨⟨cur, h, h2⟩, e⟩ hk hS
  exact ⟨⟨cur, (hk.block b (Array.getElem?_eq_some_iff.1 h).1 (hS b ((e b).2 rfl))).trans h, h2⟩, e⟩
 lt := by rintro R w ⟨⟨cur, h, _⟩, e⟩ k hk; rw [(e k).1 hk]; exact (Array.getElem?_eq_some_iff.1 h).1
theorem intsK_ints {b c : Nat} {W : List Int} {R : Nat → Prop} {w : World} (h : (intsK b c W).At R w) : (intsO b W).At R w := by
 obtain ⟨⟨cur, h1, h2, h3, h4, h5⟩, e⟩ := h
 exact ⟨⟨cur, h1, by omega, h5⟩, e⟩
theorem intsK_row {b c : Nat} {W : List Int} {R : Nat → Prop} {w : World} (B : Nat) (hB : B ≤ b) (h : (intsK b c W).At R w) : w.ownsRow B 3 1 (.slice (some ⟨b, 0, none⟩) W.length c) W.length (ints W) := by
 obtain ⟨⟨cur, h1, h2, h3, h4, h5⟩, e⟩ := h
 exact ⟨by simp [ints], .inr ⟨b, c, cur, rfl, hB, h1, h3, h4, by omega, by rw [Nat.mul_one]; exact h5⟩⟩
theorem intsK_set {b c : Nat} {W : List Int} {R : Nat → Prop} {w : World} (h : (intsK b c W).At R w) (i : Nat) (x : Int) (hi : i < W.length) : Tr (intsK b c (W.set i x)) R w (w.setCell ⟨b, i, none⟩ (i64 x)) := by
 obtain ⟨⟨cur, h1, h2, h3, h4, h5⟩, e⟩ := h
 refine ⟨R, ⟨⟨cur.setIfInBounds i (i64 x), ?_, by simpa using h2, by simpa using h3, h4, ?_⟩, e⟩, (Keep.refl _ _).set _ _ (fun _ => (e b).2 rfl), fun _ h => Or.inl h⟩
 · simp only [World.setCell, Array.getElem?_modify, if_true, h1]
   simp [Array.setIfInBounds, Array.modify]
 · rw [List.length_set]
   simp only [Array.toList_setIfInBounds, List.take_set, h5]
   simp [ints, List.map_set]
theorem St.cellsK {w0 w : World} {b c : Nat} {W : List Int} {l : List Ass} (h : St w0 (intsK b c W :: l) w) : ∀ i, i < W.length → w.cell? ⟨b, 0 + i, none⟩ = some (i64 (rd W i)) := by
 obtain ⟨R, hR, _⟩ := h.get
 exact intsO_cells (intsK_ints hR)
theorem empty_row {w : World} : Nw (rowO 3 1 (.slice (some ⟨w.heap.size, 0, none⟩) 0 0) 0 []) w (w.alloc (.cells #[] 3)) := by
 refine ⟨fun k => k = w.heap.size, ⟨⟨by simp, .inr ⟨w.heap.size, 0, #[], rfl, Nat.zero_le _, World.alloc_heap_new w _, Nat.le_refl _, by unfold maxLen; omega, rfl, rfl⟩⟩, fun k => ?_⟩, (Keep.refl _ _).alloc _, fun k h => by omega⟩
 simp [Value.ownBlock]
 exact eq_comm
theorem St.toInts {w0 w : World} {A : Option Addr} {n c : Nat} {W : List Int} {l : List Ass} (h : St w0 (rowO 3 1 (.slice A n c) n (ints W) :: l) w) (hn : 0 < n) (hl : W.length = n) :
 ∃ b, A = some ⟨b, 0, none⟩ ∧ (n ≤ c ∧ c ≤ 9223372036854775807) ∧ St w0 (intsO b W :: l) w := by
 obtain ⟨h1, U, ⟨R, V, ⟨hm, e⟩, hv, hd, hU⟩, hz⟩ := h
 have hcap : n ≤ c ∧ c ≤ 9223372036854775807 := by
  rcases hm.2 with ⟨e1, e2⟩ | ⟨g, cap, cur, e1, _, _, h4, h5, _⟩
  · omega
  · cases e1
    refine ⟨h4, ?_⟩
    unfold maxLen at h5
    omega
 obtain ⟨g, rfl, hi, hBg⟩ := ints_own hm hn hl
 refine ⟨g, rfl, hcap, h1, U, ⟨R, V, ⟨hi, fun k => ?_⟩, hv, hd, hU⟩, hz⟩
 rw [e]
 simp [Value.ownBlock]
 exact eq_comm
theorem St.toK {w0 w : World} {A : Option Addr} {n c : Nat} {W : List Int} {l : List Ass} (h : St w0 (rowO 3 1 (.slice A n c) n (ints W) :: l) w) (hn : 0 < n) (hl : W.length = n) :
 ∃ b, A = some ⟨b, 0, none⟩ ∧ (n ≤ c ∧ c ≤ 9223372036854775807) ∧ St w0 (intsK b c W :: l) w := by
 obtain ⟨h1, U, ⟨R, V, ⟨hm, e⟩, hv, hd, hU⟩, hz⟩ := h
 rcases hm.2 with ⟨e1, e2⟩ | ⟨g, cap, cur, e1, h2, h3, h4, h5, h6, h7⟩
 · omega
 · cases e1
   refine ⟨g, rfl, ⟨h4, by unfold maxLen at h5; omega⟩, h1, U, ⟨R, V, ⟨⟨cur, h3, by omega, by omega, h5, by rw [hl]; rw [Nat.mul_one] at h7; exact h7⟩, fun k => ?_⟩, hv, hd, hU⟩, hz⟩
   rw [e]
   simp [Value.ownBlock]
   exact eq_comm
theorem St.head {w0 w : World} {p : Ass} {l : List Ass} (h : St w0 (p :: l) w) : St w0 [p] w := by
 obtain ⟨R, hR, hz⟩ := h.get
 exact St.one h.k hR hz
set_option maxHeartbeats 4000000 in
theorem law14_RawK (w : World) (lb lo : Nat) (t s g l r k : Int) (PA : Option Addr) (pn pc ln lc : Nat) (L : List Int) (VA : Option Addr) (Vl : List Int) (vc : Nat)
 (hs0 : 1 ≤ s) (hs1 : s ≤ 8) (hk0 : 0 ≤ k) (hk1 : k ≤ 100) (hp : pn ≤ 100) (hpl : pn ≤ ln) (hL : ∀ i, i < pn → w.cell? ⟨lb, lo + i, none⟩ = some (i64 (rd L i))) (hlb : lb < w.heap.size) (hV : IntsAt w VA Vl) (hvl : Vl.length ≤ 1000) (hn0 : 0 < (freshW s k pn L).length) (hn1 : (freshW s k pn L).length ≤ 3000) :
 Calls Tryz.prog 19 #[.agg #[i64 t, i64 s, i64 g, i64 l, i64 r, i64 k, .slice PA pn pc, .slice (some ⟨lb, lo, none⟩) ln lc], .slice VA Vl.length vc] w fun e w' => ∃ x : Nat × Nat, (e = .returned (.slice (some ⟨x.1, 0, none⟩) (freshW s k pn L).length x.2) ∧ ((freshW s k pn L).length ≤ x.2 ∧ x.2 ≤ 9223372036854775807)) ∧ Nw (intsK x.1 x.2 (rawW (freshW s k pn L) Vl)) w w' := by
 have HL := hid hL
 have HV := hid hV
 obtain ⟨F, hF⟩ : ∃ F, F = freshW s k pn L := ⟨_, rfl⟩
 rw [← hF] at hn0 hn1 ⊢
 obtain ⟨N, hN⟩ : ∃ N, N = F.length := ⟨_, rfl⟩
 have HN0 := hid hn0
 have HF := hid hF
 have HN0' := hid (show 0 < N from hN ▸ hn0)
 have HN := hid hN
 rw [← hN] at hn1 hn0 ⊢
 clear hF hN
 obtain ⟨i0, hti, hz0, hz1, hz2⟩ := info_parts info_int
 have HI := hid hti
 clear hL hV hti
 go_enter Tryz.func19, Tryz.ntmps19
 go_wp2_with fail
 obtain ⟨w2, hw2⟩ : ∃ v, v = (w.alloc (.cells #[i64 t, i64 s, i64 g, i64 l, i64 r, i64 k, .slice PA pn pc, .slice (some ⟨lb, lo, none⟩) ln lc] 24)).alloc (.cells #[] 3) := ⟨_, rfl⟩
 rw [← hw2]
 have hs : St w [rowO 3 1 (.slice (some ⟨w.heap.size + 1, 0, none⟩) 0 0) 0 [], Ass.blk w.heap.size 24 [i64 t, i64 s, i64 g, i64 l, i64 r, i64 k, .slice PA pn pc, .slice (some ⟨lb, lo, none⟩) ln lc]] w2 := by
  have h1 := St.nw (St.nil (Keep.refl _ w)) (Nw.blk (w' := w.alloc (.cells #[i64 t, i64 s, i64 g, i64 l, i64 r, i64 k, .slice PA pn pc, .slice (some ⟨lb, lo, none⟩) ln lc] 24)) (b := w.heap.size) (T := 24) (cs := [i64 t, i64 s, i64 g, i64 l, i64 r, i64 k, .slice PA pn pc, .slice (some ⟨lb, lo, none⟩) ln lc]) (Blk.made rfl rfl) ((Keep.refl _ _).alloc _) (Nat.le_refl _))
  have h2 := St.nw h1 empty_row
  rw [hw2]
  simpa using h2
 obtain ⟨cb, hcb⟩ : ∃ v, v = w.heap.size := ⟨_, rfl⟩
 obtain ⟨eb, heb⟩ : ∃ v, v = w.heap.size + 1 := ⟨_, rfl⟩
 rw [← heb, ← hcb] at hs ⊢
 have HS := hid hs
 clear hs hw2 heb hcb
 obtain ⟨_, ⟨hb, _⟩, _⟩ := St.get (show St w [Ass.blk cb 24 [i64 t, i64 s, i64 g, i64 l, i64 r, i64 k, .slice PA pn pc, .slice (some ⟨lb, lo, none⟩) ln lc], rowO 3 1 (.slice (some ⟨eb, 0, none⟩) 0 0) 0 []] w2 from (St.pick (show St w [rowO 3 1 (.slice (some ⟨eb, 0, none⟩) 0 0) 0 [], Ass.blk cb 24 [i64 t, i64 s, i64 g, i64 l, i64 r, i64 k, .slice PA pn pc, .slice (some ⟨lb, lo, none⟩) ln lc]] w2 from by repeat (with_reducible first | exact HS.out | apply St.alloc | apply St.drewN | apply St.drew)) 1 (by simp)))
 have qb := hb.k8
 clear hb
 refine Calls.mono (St.newx (q := fun (y : Nat × Nat) => refO y.2 y.1 F []) (show St w [rowO 3 1 (.slice (some ⟨eb, 0, none⟩) 0 0) 0 [], Ass.blk cb 24 [i64 t, i64 s, i64 g, i64 l, i64 r, i64 k, .slice PA pn pc, .slice (some ⟨lb, lo, none⟩) ln lc]] _ from (show St w [rowO 3 1 (.slice (some ⟨eb, 0, none⟩) 0 0) 0 [], Ass.blk cb 24 [i64 t, i64 s, i64 g, i64 l, i64 r, i64 k, .slice PA pn pc, .slice (some ⟨lb, lo, none⟩) ln lc]] _ from by repeat (with_reducible first | exact HS.out | apply St.alloc | apply St.drewN | apply St.drew))) (show Calls _ _ _ _ (fun e w' => ∃ y : Nat × Nat, e = .returned (ptr y.1) ∧ Nw (refO y.2 y.1 F []) w2 w') from by rw [HF.out]; exact refO_Fresh w2 lb lo t s g l r k PA pn pc ln lc L hs0 hs1 hk0 hk1 hp hpl (fun i hi => (cell_old HS.out.k hlb (fun h => h) _).trans (HL.out i hi)) (Nat.lt_of_lt_of_le hlb HS.out.k.size))) ?_
 rintro e w3 ⟨y, rfl, hs⟩
 clear HS
 have HS := hid (show St w [refO y.2 y.1 F [], rowO 3 1 (.slice (some ⟨eb, 0, none⟩) 0 0) 0 [], Ass.blk cb 24 [i64 t, i64 s, i64 g, i64 l, i64 r, i64 k, .slice PA pn pc, .slice (some ⟨lb, lo, none⟩) ln lc]] w3 from hs)
 clear hs
 obtain ⟨gb, gc, lv0, hmb, hcap, hs⟩ := St.words (show St w [refO y.2 y.1 F [], rowO 3 1 (.slice (some ⟨eb, 0, none⟩) 0 0) 0 [], Ass.blk cb 24 [i64 t, i64 s, i64 g, i64 l, i64 r, i64 k, .slice PA pn pc, .slice (some ⟨lb, lo, none⟩) ln lc]] w3 from (show St w [refO y.2 y.1 F [], rowO 3 1 (.slice (some ⟨eb, 0, none⟩) 0 0) 0 [], Ass.blk cb 24 [i64 t, i64 s, i64 g, i64 l, i64 r, i64 k, .slice PA pn pc, .slice (some ⟨lb, lo, none⟩) ln lc]] w3 from by repeat (with_reducible first | exact HS.out | apply St.alloc | apply St.drewN | apply St.drew))) HN0.out
 have HS := hid hs
 have HMB := hid hmb
 have qm := hmb.k2
 clear hs hmb qb
 rw [← HN.out] at hcap qm
 have hnw : ∀ j u, (ints F)[j]? = some u → w3.cell? (Addr.add ⟨gb, 0, none⟩ j) = some u := by
  intro j u hj
  have hjl : j < F.length := by
   have := (List.getElem?_eq_some_iff.1 hj).1
   simpa [ints] using this
  have h := St.cells HS.out j hjl
  rw [Nat.zero_add] at h
  rw [addr_add, h]
  have e := ints_get F j hjl
  rw [hj] at e
  exact e.symm
 obtain ⟨_, ⟨hro, _⟩, _⟩ := St.get (St.pick HS.out 1 (by simp))
 have HRO := hid hro
 clear hro
 go_upto_region 2 with (at_builtin; refine wpl_append_own ?a1 (.tmp 7) (.tmp 12) 22 ?a2 (0) 3 i0 ?z 1 8 ?a3 ?a4 ?a5 ?a6 ?a7 ?a8 ?a9 (.slice (some ⟨eb, 0, none⟩) 0 0) (0) ([]) ?a10 ?hown (⟨gb, 0, none⟩) (N) (gc) (ints F) ?a11 ?a12 ?hnews ?hone ?h63 ?hby ?hbase ?_; (case a1 => rfl); (case a2 => rfl); (case a3 => exact Tryz.underlying22); (case a4 => exact HI.out); (case a5 => exact hz0); (case a6 => exact hz1); (case a7 => exact hz2); (case a8 => rfl); (case a9 => decide); (case a10 => rfl); (case a11 => rfl); (case a12 => have := HN.out; simp [ints]; omega); (case hown => exact HRO.out); (case h63 => unfold maxLen; omega); (case hby => omega); (case hnews => exact fun j u hj => hnw j u hj); (case hone => simp [ints, Value.oneCell']); (case hbase => omega); intro A9 c9 w9 hown9 hg9 hsl9; have HS9 := hid (St.tr (St.pick HS.out 1 (by simp)) (fun R hr => rowO_app hr (Keep.refl _ _) hown9 hg9 hsl9.1)); clear hown9 hg9 hsl9)
 have e0 : (([] : List Value) ++ ints F) = ints F := rfl
 rw [e0, Nat.zero_add] at HS9
 obtain ⟨wb, rfl, hcp, hs⟩ := St.toK HS9.out HN0'.out HN.out.symm
 have HS0 := hid (show St w [intsK wb c9 F] w9 from St.head hs)
 have HCP := hid hcp
 clear hs HS9 HS HRO hnw qm hcap hcp HMB HN0
 have HNF := hid (rawN_len F Vl)
 have HST := hid (show ∀ i, rawN F Vl (i + 1) = (rawN F Vl i).set (F.length - 1 - i) (rd Vl i) from fun _ => rfl)
 have HWR := hid (show rawW F Vl = rawN F Vl (min Vl.length N) from by rw [HN.out]; rfl)
 go_wp2_with fail
 go_loopw [6] (fun v6 wr => ∃ i : Nat, i ≤ min Vl.length N ∧ v6 = .int .i64 i ∧ St w [intsK wb c9 (rawN F Vl i)] wr) (fun v _ => N - (intOf v).toNat)
 case atStart => exact ⟨0, Nat.zero_le _, rfl, HS0.out⟩
 case round =>
  obtain ⟨i, hi, rfl, hs⟩ := hrel
  have HS := hid hs
  clear hs HS0
  by_cases hlt : i < Vl.length
  · by_cases hlt2 : i < N
    · obtain ⟨vb, vo, rfl, hvc⟩ := HV.out.cell (by omega)
      have hc0 := hvc i hlt
      have hbz : vb < w.heap.size := by have := World.block_lt_of_cell? _ _ hc0; simpa using this
      have hc := (cell_old HS.out.k hbz (fun h => h) _).trans hc0
      have hbz2 := Nat.lt_of_lt_of_le hbz HS.out.k.size
      obtain ⟨j, hj⟩ : ∃ j, j = N - 1 - i := ⟨_, rfl⟩
      have y1 : IntKind.i64.wrap ((N : Int) - 1) = (N : Int) - 1 := IntWalk.i64_in _ (by omega)
      have y2 : IntKind.i64.wrap ((N : Int) - 1 - (i : Int)) = (j : Int) := by rw [IntWalk.i64_in _ (by omega)]; omega
      have hjN : j < N := by omega
      have HJ := hid (show F.length - 1 - i = j from by rw [← HN.out]; exact hj.symm)
      have HT := hid (fun x => St.tr HS.out (fun R hr => intsK_set hr j x (by rw [HNF.out, ← HN.out]; exact hjN)))
      have hbw := St.cellsK HS.out j (by rw [HNF.out, ← HN.out]; exact hjN)
      rw [Nat.zero_add] at hbw
      obtain ⟨_, hkw, _⟩ := St.get HS.out
      obtain ⟨hiw, _⟩ := intsK_ints hkw
      have hfz : wr.frozen? ⟨wb, j, none⟩ = false := by
       obtain ⟨cur, hg, _⟩ := hiw
       simp [World.frozen?, hg]
      have hwl := hiw.lt
      clear hiw hkw hvc hc0 hj
      have HMI := hid (show i + 1 ≤ min Vl.length N from by omega)
      go_wp2_with fail
      go_roundw
      case rel => exact ⟨i + 1, HMI.out, by go_num, by rw [HST.out, HJ.out]; exact HT.out _⟩
      case measure => simp [intOf]; omega
    · have hin : i = min Vl.length N := by omega
      have HI2 := hid hin
      clear hin
      go_wp2_with fail
      go_ret
      exact ⟨(wb, c9), ⟨rfl, HCP.out⟩, by rw [HWR.out, ← HI2.out]; exact nw_one (St.out HS.out)⟩
  · have hin : i = min Vl.length N := by omega
    have HI2 := hid hin
    clear hin
    go_wp2_with fail
    go_ret
    exact ⟨(wb, c9), ⟨rfl, HCP.out⟩, by rw [HWR.out, ← HI2.out]; exact nw_one (St.out HS.out)⟩
end Go.Proofs.YthaceckccobgeaaGreat

namespace Go.Proofs.YthaceckccobgeaaGreat
open Go.RowKit
set_option linter.unusedVariables false
set_option linter.unusedSimpArgs false
set_option maxRecDepth 100000
theorem ref_Right_all14 (t s g l r k : Int) (PA : Option Addr) (P : List Int) (pc : Nat) (LA : Option Addr) (L : List Int) (lc : Nat) (w : World) (hP : IntsAt w PA P) (hL : IntsAt w LA L) (hpl : P.length ≤ 1000) (hll : L.length ≤ 1000) :
 Calls Tryz.prog 18 #[.agg #[i64 t, i64 s, i64 g, i64 l, i64 r, i64 k, .slice PA P.length pc, .slice LA L.length lc]] w (Ret (.bool (rightB t s g l r k P L)) w) := by
 cases hh : headB t s g l r k P.length L.length
 · exact ref_Right_no _ _ _ _ _ _ _ _ _ _ _ _ _ hpl hll hh
 · exact ref_Right_yes _ _ _ _ _ _ _ _ _ _ _ _ _ hP hL hpl hll hh
theorem ParR.of_right {t s g l r k : Int} {P L : List Int} (h : Right t s g l r k P L) : ParR P := fun i hi =>
 ⟨fun e => by rw [e]; exact h.root, fun h0 => by have := h.par i h0 hi; omega⟩
theorem fresh14_len (s K pn : Nat) (L : List Int) : (freshW (s : Int) (K : Int) pn L).length = pn * (6 + 2 * s) + 2 * K := by
 unfold freshW
 rw [layN_length, List.length_replicate]
 have : ((pn : Int) * (6 + 2 * (s : Int)) + 2 * (K : Int)) = ((pn * (6 + 2 * s) + 2 * K : Nat) : Int) := by push_cast; rfl
 rw [this, Int.toNat_natCast]
end Go.Proofs.YthaceckccobgeaaGreat

namespace Go.Proofs.YthaceckccobgeaaGreat
open Go.RowKit
set_option linter.unusedVariables false
set_option linter.unusedSimpArgs false
set_option maxRecDepth 100000
set_option maxHeartbeats 2000000 in
theorem ref_Under (t s g l r k : Int) (P : List Int) (pb po pc : Nat) (LA : Option Addr) (ln lc : Nat) (a b : Nat) (w : World) (hp : P.length ≤ 1000) (ho : ParOK P) (ha : a < P.length) (hP : ∀ i, i < P.length → w.cell? ⟨pb, po + i, none⟩ = some (i64 (rd P i))) :
 Calls Tryz.prog 14 #[.agg #[i64 t, i64 s, i64 g, i64 l, i64 r, i64 k, .slice (some ⟨pb, po, none⟩) P.length pc, .slice LA ln lc], i64 (a : Int), i64 (b : Int)] w (Ret (.bool (undP P a b)) w) := by
 have hpz : pb < w.heap.size := by have h := World.block_lt_of_cell? _ _ (hP a ha); simpa using h
 have HPA := hid (fun (w' : World) (hk : Keep0 w w') => ref_Path t s g l r k P pb po pc LA ln lc a w' hp (fun i hi => (cell_old hk hpz (fun h => h) _).trans (hP i hi)) ho ha)
 have hpl := (pathN_mem ho a ha).2
 have HU := hid (show undP P a b = decide (b ∈ pathN P a) from rfl)
 generalize pathN P a = p at *
 have hp1 : 0 < p.length := by omega
 have hp2 : p.length ≤ 1000 := by omega
 generalize undP P a b = ub at *
 clear hP ho hpl
 go_enter Tryz.func14, Tryz.ntmps14
 have HK0 : Hid (Keep0 w (w.alloc (.cells #[i64 t, i64 s, i64 g, i64 l, i64 r, i64 k, .slice (some ⟨pb, po, none⟩) P.length pc, .slice LA ln lc] 24))) := hid ((Keep.refl _ _).alloc _)
 go_wp2_with fail
 refine (HPA.out _ HK0.out).mono ?_
 rintro e w1 ⟨⟨A, c⟩, rfl, R, hr, hk, _⟩
 obtain ⟨rb, e1, hrz, hcl⟩ := rowO_cell hr hp1
 simp only at e1
 subst e1
 have HK1 : Hid (Keep0 w w1) := hid (Keep0.step HK0.out hk)
 have HC := hid (show ∀ i (h : i < p.length), w1.cell? ⟨rb, i, none⟩ = some (i64 (p[i] : Int)) from fun i h => by
  obtain ⟨_, e2, _, h2⟩ := rowO_cell hr h
  simp only [Option.some.injEq, Addr.mk.injEq] at e2
  obtain ⟨rfl, _⟩ := e2
  exact h2 _ (by simp [ints, nats, h]))
 clear hr hk hcl HK0 HPA
 go_wp2_with fail
 go_loopw [8] (fun v8 wr => ∃ i : Nat, i ≤ p.length ∧ v8 = .int .i64 i ∧ b ∉ p.take i ∧ Keep0 w1 wr) (fun v _ => p.length - (intOf v).toNat)
 case atStart => exact ⟨0, Nat.zero_le _, rfl, by simp, Keep.refl _ _⟩
 case round =>
  obtain ⟨i, hi, rfl, hno, hk⟩ := hrel
  have HK := hid hk
  clear hk
  by_cases hlt : i < p.length
  · have hc := (cell_old HK.out hrz (fun h => h) _).trans (HC.out i hlt)
    have hrz2 := Nat.lt_of_lt_of_le hrz HK.out.size
    have HN := hid (show b ∉ p.take (i + 1) ↔ ¬ b = p[i] from by rw [List.take_succ_eq_append_getElem hlt, List.mem_append, List.mem_singleton]; simp [hno])
    have HM := hid (show p[i] ∈ p from List.getElem_mem hlt)
    generalize p[i] = x at *
    clear hno
    by_cases e : x = b
    · subst e
      obtain rfl : ub = true := HU.out.trans (decide_eq_true HM.out)
      go_wp2_with fail
      go_ret
      exact ⟨rfl, HK1.out.trans HK.out (fun _ _ h => h)⟩
    · go_wp2_with fail
      go_roundw
      case rel => exact ⟨i + 1, by omega, by go_num, HN.out.2 (fun h => e h.symm), HK.out⟩
      case measure => simp [intOf]; omega
  · obtain rfl : i = p.length := by omega
    rw [List.take_length] at hno
    obtain rfl : ub = false := HU.out.trans (decide_eq_false hno)
    go_wp2_with fail
    go_ret
    exact ⟨rfl, HK1.out.trans HK.out (fun _ _ h => h)⟩
end Go.Proofs.YthaceckccobgeaaGreat
