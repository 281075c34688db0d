/- RefSevenZ: the texts RefSevenA, RefSevenB, RefPlaySeven, RefSevenS, in one. -/
import Derived.Test.YtlkniogapdhcpaaSnapE
import Derived.Test.YtlkniogapdhcpaaRefOps
import Derived.Test.YtlkniogapdhcpaaRefOne
import Derived.Deep.DeepCutAuto
import Derived.Deep.QuietTactic
import Derived.BigQuiet
import Derived.Test.YtlkniogapdhcpaaPlay
import Derived.Test.YtlkniogapdhcpaaRegion
import Derived.Test.YtlkniogapdhcpaaSnapCC
namespace Go.Proofs.Ytlkniogapdhcpaa
open Go.RowKit
set_option linter.unusedVariables false
set_option linter.unusedSimpArgs false
set_option maxRecDepth 100000
/-- append of nothing: a nil slice -/
theorem wpl_append_none {P : Program} {ops : Array Oper} {rest : List Oper} {o : Oper} {a : Act} {w : World} {Q : Exit → Act → World → Prop}
    (hgd : o.guard = none) (s x : Operand) (t : TypeId) (ho : o.op = .call { callee := .builtin .append, args := #[s, x], argTypes := #[t, t] })
    (e : TypeId) (i : TypeInfo) (ht : P.underlying t = some (.slice e)) (hi : P.info? e = some i)
    (b : Addr) (n c : Nat) (hs : a.eval s = .slice (some b) n c) (gv : Value) (hx : a.eval x = gv) (hgv : gv = .slice none 0 0) (hn : n ≤ c) (A' : Option Addr) (n' c' : Nat) (hA : A' = some b) (hn' : n' = n) (hc' : c' = c)
    (h : wpList P ops Q rest (a.put o.dst (.slice A' n' c')) w) : wpList P ops Q (o :: rest) a w :=
  wpList_step fun {K} hK => by
    subst hgv hA hn' hc'
    have hw : Region.wanted o (yielded ops a.tmps) = true := by simp [Region.wanted, hgd]
    rw [if_pos hw]
    have hr : (Builtin.append_ #[t, t] o.type #[.slice (some b) n' c', .slice none 0 0]).run P w = .ok (.slice (some b) n' c') w := by
      simp [Builtin.append_, run_underlying ht, sizeOf, typeInfo, hi, Builtin.lenOf, Builtin.firstCells, hn, storeCells]
    unfold Oper.wp execOp
    simp only [ho, resolve, invoke, builtin, Sem.run_bind, Sem.run_pure, Result.andThen_ok, List.map_toArray, List.map_cons, List.map_nil, hs, hx, hr]
    exact hK _ _ h
/-- the loop of closed: which stripes were loaded alike, twice -/
def vB (s : Nat) (g : List Int) : Nat → Bool
  | 0 => true
  | i + 1 => vB s g i && (rd g (3 + i) == rd g (4 + s + i))
theorem vB_vw (s : Nat) (g : List Int) : ∀ i, i ≤ s → vB s g i = true → ∀ j, j < i → vw s g 3 j = vw s g (4 + s) j := by
  intro i
  induction i with
  | zero => intro _ _ j h; omega
  | succ i ih =>
    intro hi h j hj
    simp only [vB, Bool.and_eq_true, beq_iff_eq] at h
    by_cases e : j = i
    · subst e
      unfold vw
      rw [if_pos (by omega), if_pos (by omega)]
      exact h.2
    · exact ih (by omega) h.1 j (by omega)
theorem vw_vB (s : Nat) (g : List Int) (h : ∀ j, j < s → vw s g 3 j = vw s g (4 + s) j) : ∀ i, i ≤ s → vB s g i = true := by
  intro i
  induction i with
  | zero => intro _; rfl
  | succ i ih =>
    intro hi
    have h1 := h i (by omega)
    unfold vw at h1
    rw [if_pos (by omega), if_pos (by omega)] at h1
    simp only [vB, Bool.and_eq_true, beq_iff_eq]
    exact ⟨ih (by omega), h1⟩
theorem vB_view {s : Nat} {g : List Int} (hs : s ≤ 8) : vB s g s = viewB s g := by
  rw [Bool.eq_iff_iff]
  constructor
  · intro h
    have h1 := vB_vw s g s (Nat.le_refl _) h
    have h2 : ∀ j, vw s g 3 j = vw s g (4 + s) j := by
      intro j
      by_cases hj : j < s
      · exact h1 j hj
      · unfold vw; rw [if_neg hj, if_neg hj]
    unfold viewB
    simp only [h2]
    simp
  · intro h
    refine vw_vB s g (fun j hj => ?_) s (Nat.le_refl _)
    unfold viewB at h
    simp only [Bool.and_eq_true, beq_iff_eq] at h
    have hj8 : j = 0 ∨ j = 1 ∨ j = 2 ∨ j = 3 ∨ j = 4 ∨ j = 5 ∨ j = 6 ∨ j = 7 := by omega
    rcases hj8 with rfl | rfl | rfl | rfl | rfl | rfl | rfl | rfl <;> simp [h]
theorem gsum_8 (s : Nat) (g : List Int) (hs : 1 ≤ s ∧ s ≤ 8) : gsum s g 8 = gsum s g s := by
  have h2 : ∀ d, gsum s g (s + d) = gsum s g s := by
    intro d
    induction d with
    | zero => rfl
    | succ d ih =>
      show wrap64 (gsum s _ (s + d) + pVal (vw s _ 3 (s + d))) = _
      rw [ih, show vw s g 3 (s + d) = 0 from by unfold vw; rw [if_neg (by omega)], show pVal 0 = 0 by unfold pVal wrap32; omega, Int.add_zero]
      obtain ⟨u, rfl⟩ : ∃ u, s = u + 1 := ⟨s - 1, by omega⟩
      show wrap64 (wrap64 _) = wrap64 _
      exact wrap64_wrap _
  have := h2 (8 - s)
  rw [show s + (8 - s) = 8 by omega] at this
  exact this
section
variable {B : Nat} {w : World} {m y : Nat} {b s : Nat} {lf an : Int} {pk ax en : Bool} {gv : Value} {g c : Nat}
set_option maxHeartbeats 1000000 in
theorem ref7_word (i : Nat) (hy : Blk w y 88 [i64 (b : Int), i64 (s : Int), i64 lf, .bool pk, gv, i64 0, i64 an, .bool ax, i64 0, .bool en]) (hb : b ≤ 1000000) (hs : 1 ≤ s ∧ s ≤ 8) (hi : i < 4 + 2 * s) : Calls Try.prog 50 #[ptr y, i64 (i : Int)] w (Ret (i64 ((wat b s i : Nat) : Int)) w) := by
  have qy := hy.k10
  have y1 : IntKind.i64.wrap (3 + (s : Int)) = 3 + (s : Int) := IntWalk.i64_in _ (by omega)
  have y2 : IntKind.i64.wrap ((b : Int) + 1) = ((b + 1 : Nat) : Int) := IntWalk.i64_in _ (by omega)
  have y3 : IntKind.i64.wrap ((b : Int) + 2) = ((b + 2 : Nat) : Int) := IntWalk.i64_in _ (by omega)
  have y4 : IntKind.i64.wrap ((b : Int) + 4) = (b : Int) + 4 := IntWalk.i64_in _ (by omega)
  have y5 : IntKind.i64.wrap ((b : Int) + 4 + (i : Int)) = (b : Int) + 4 + (i : Int) := IntWalk.i64_in _ (by omega)
  have hi0 : i = 0 ∨ i = 1 ∨ i = 2 ∨ (3 ≤ i ∧ i < 3 + s) ∨ i = 3 + s ∨ (4 + s ≤ i) := by omega
  clear hy
  rcases hi0 with rfl | rfl | rfl | ⟨h1, h2⟩ | rfl | h1
  · rw [wat_0]
    go_enter Try.func50, Try.ntmps50
    go_wp2_with fail
    go_ret
    exact ⟨rfl, Keep.refl _ _⟩
  · rw [wat_1]
    have g2 : ((1 : Int) == 3 + (s : Int)) = false := beq_eq_false_iff_ne.2 (by omega)
    go_enter Try.func50, Try.ntmps50
    go_wp2_with fail
    go_ret
    exact ⟨rfl, Keep.refl _ _⟩
  · rw [wat_two]
    have g2 : ((2 : Int) == 3 + (s : Int)) = false := beq_eq_false_iff_ne.2 (by omega)
    go_enter Try.func50, Try.ntmps50
    go_wp2_with fail
    go_ret
    exact ⟨rfl, Keep.refl _ _⟩
  · have e : wat b s i = b + (4 + (i - 3)) := by have := wat_a (b := b) (s := s) (i := i - 3) (by omega); rw [show 3 + (i - 3) = i by omega] at this; exact this
    rw [e]
    have g1 : ((i : Int) == 0) = false := beq_eq_false_iff_ne.2 (by omega)
    have g2 : ((i : Int) == 3 + (s : Int)) = false := beq_eq_false_iff_ne.2 (by omega)
    have g3 : ((i : Int) == 1) = false := beq_eq_false_iff_ne.2 (by omega)
    have g4 : ((i : Int) == 2) = false := beq_eq_false_iff_ne.2 (by omega)
    have g5 : decide ((i : Int) < 3 + (s : Int)) = true := decide_eq_true (by omega)
    have y6 : IntKind.i64.wrap ((b : Int) + 4 + (i : Int) - 3) = ((b + (4 + (i - 3)) : Nat) : Int) := by rw [IntWalk.i64_in _ (by omega)]; omega
    clear e
    generalize b + (4 + (i - 3)) = z at *
    go_enter Try.func50, Try.ntmps50
    go_wp2_with fail
    go_ret
    exact ⟨rfl, Keep.refl _ _⟩
  · rw [wat_m]
    have g1 : (((3 + s : Nat) : Int) == 0) = false := beq_eq_false_iff_ne.2 (by omega)
    have g2 : (((3 + s : Nat) : Int) == 3 + (s : Int)) = true := by simp
    generalize ((3 + s : Nat) : Int) = z at *
    go_enter Try.func50, Try.ntmps50
    go_wp2_with fail
    go_ret
    exact ⟨rfl, Keep.refl _ _⟩
  · have e : wat b s i = b + (4 + (i - (4 + s))) := by have := wat_b (b := b) (s := s) (i := i - (4 + s)) (by omega); rw [show 4 + s + (i - (4 + s)) = i by omega] at this; exact this
    rw [e]
    have g1 : ((i : Int) == 0) = false := beq_eq_false_iff_ne.2 (by omega)
    have g2 : ((i : Int) == 3 + (s : Int)) = false := beq_eq_false_iff_ne.2 (by omega)
    have g3 : ((i : Int) == 1) = false := beq_eq_false_iff_ne.2 (by omega)
    have g4 : ((i : Int) == 2) = false := beq_eq_false_iff_ne.2 (by omega)
    have g5 : decide ((i : Int) < 3 + (s : Int)) = false := decide_eq_false (by omega)
    have y6 : IntKind.i64.wrap ((b : Int) + 4 + (i : Int) - 4) = (b : Int) + (i : Int) := by rw [IntWalk.i64_in _ (by omega)]; omega
    have y7 : IntKind.i64.wrap ((b : Int) + (i : Int) - (s : Int)) = ((b + (4 + (i - (4 + s))) : Nat) : Int) := by rw [IntWalk.i64_in _ (by omega)]; omega
    clear e
    generalize b + (4 + (i - (4 + s))) = z at *
    go_enter Try.func50, Try.ntmps50
    go_wp2_with fail
    go_quiet (fail)
    go_wp2_with fail
    go_ret
    exact ⟨rfl, (Keep.refl _ _).drewN nq⟩
set_option maxHeartbeats 4000000 in
theorem ref7_closed (G : List Int) (n : Nat) (hn : n = 4 + 2 * s) (hy : Blk w y 88 [i64 (b : Int), i64 (s : Int), i64 lf, .bool pk, .slice (some ⟨g, 0, none⟩) n c, i64 0, i64 an, .bool ax, i64 0, .bool en]) (hg : Ints w g G) (hgy : ¬ g = y) (hG : G.length = n) (hs : 1 ≤ s ∧ s ≤ 8) (hl : 1 ≤ lf ∧ lf ≤ 1000) :
    Calls Try.prog 51 #[ptr y] w fun e w' => e = .returned (.tuple #[]) ∧ Keep (fun k => k = y) w w' ∧
      Blk w' y 88 [i64 (b : Int), i64 (s : Int), i64 (lf - 1), .bool pk, .slice none 0 0, i64 0, i64 (if calmB s G = true then gsum s G 8 else if lf - 1 = 0 then rd G 2 else an), .bool (if calmB s G = true then true else if lf - 1 = 0 then false else ax), i64 0, .bool (if calmB s G = true then true else if lf - 1 = 0 then true else en)] := by
  obtain ⟨q, hq⟩ : ∃ q, q = 3 + s := ⟨_, rfl⟩
  have qy := hy.k10
  have HY := hid hy
  have HG := hid hg
  have c0 := hg.cell 0 (by omega)
  have c1 := hg.cell 1 (by omega)
  have c2 := hg.cell 2 (by omega)
  have c3 := hg.cell q (by omega)
  have zg := hg.lt
  have y1 : IntKind.i64.wrap (3 + (s : Int)) = (q : Int) := by rw [IntWalk.i64_in _ (by omega)]; omega
  have k0 : 0 < n := by omega
  have k1 : 1 < n := by omega
  have k2 : 2 < n := by omega
  have k3 : q < n := by omega
  have k1i : (1 : Int) < (n : Int) := by omega
  have k2i : (2 : Int) < (n : Int) := by omega
  have HGL := hid hG
  have HGY := hid hgy
  clear hgy
  have hcal : calmB s G = ((rd G 0 == rd G 1 && rd G 0 == rd G q) && vB s G s) := by
    rw [vB_view hs.2]; unfold calmB; rw [← hq, Bool.and_assoc]
  have HCAL := hid hcal
  have HGS := hid (gsum_8 s G hs)
  have HNQ := hid (show n = 4 + 2 * s ∧ q = 3 + s from ⟨hn, hq⟩)
  clear hy hg hG hcal hn hq
  obtain ⟨rn, hrn⟩ : ∃ v, v = (if calmB s G = true then gsum s G 8 else if lf - 1 = 0 then rd G 2 else an) := ⟨_, rfl⟩
  obtain ⟨rx, hrx⟩ : ∃ v, v = (if calmB s G = true then true else if lf - 1 = 0 then false else ax) := ⟨_, rfl⟩
  obtain ⟨re, hre⟩ : ∃ v, v = (if calmB s G = true then true else if lf - 1 = 0 then true else en) := ⟨_, rfl⟩
  rw [← hrn, ← hrx, ← hre]
  have HRES := hid (And.intro hrn (And.intro hrx hre))
  clear hrn hrx hre
  cases h0 : (rd G 0 == rd G 1)
  all_goals
    obtain ⟨b0, hb0⟩ : ∃ b0, b0 = (rd G 0 == rd G 1 && rd G 0 == rd G q) := ⟨_, rfl⟩
    have HB0 := hid hb0
    rw [h0] at hb0
    clear hb0
    rw [← HB0.out] at HCAL
    go_enter Try.func51, Try.ntmps51
    go_wp2_with fail
    go_quiet (fail)
    go_wp2_with fail
    obtain ⟨w1, hw1⟩ : ∃ v, v = w.drewN nq := ⟨_, rfl⟩
    rw [← hw1]
    have HK1 : Hid (Keep0 w w1) := hid (by rw [hw1]; exact (Keep.refl _ _).drewN nq)
    have HH0 := hid h0
    clear hw1 c0 c1 c2 c3 qy h0
    go_loopw [3, 4, 5] (fun u v x wr => ∃ i : Nat, i ≤ s ∧ u = .bool (b0 && vB s G i) ∧ v = .int .i64 (gsum s G i) ∧ x = .int .i64 (i : Int) ∧ Keep0 w1 wr) (fun _ _ x _ => s - (intOf x).toNat)
    case atStart => exact ⟨0, Nat.zero_le _, by rw [HB0.out, HH0.out]; simp [vB], rfl, rfl, Keep.refl _ _⟩
    case round =>
      obtain ⟨i, hi, rfl, rfl, rfl, hk⟩ := hrel
      have HKR := hid (HK1.out.trans hk (fun _ _ h => h))
      have HYR := hid (HKR.out.blk HY.out (fun h => h))
      have HGR := hid (HKR.out.ints HG.out (fun h => h))
      have HKL := hid hk
      have qr := HYR.out.k10
      clear hk
      by_cases hlt : i < s
      · obtain ⟨p1, hp1⟩ : ∃ p, p = 3 + i := ⟨_, rfl⟩
        obtain ⟨p2, hp2⟩ : ∃ p, p = 4 + s + i := ⟨_, rfl⟩
        have hnq := HNQ.out
        have d1 := HGR.out.cell p1 (by rw [HGL.out]; omega)
        have d2 := HGR.out.cell p2 (by rw [HGL.out]; omega)
        have zr := HGR.out.lt
        have e1 : p1 < n := by omega
        have e2 : p2 < n := by omega
        have y2 : IntKind.i64.wrap (3 + (i : Int)) = (p1 : Int) := by rw [IntWalk.i64_in _ (by omega)]; omega
        have y3 : IntKind.i64.wrap (4 + (s : Int)) = 4 + (s : Int) := IntWalk.i64_in _ (by omega)
        have y4 : IntKind.i64.wrap (4 + (s : Int) + (i : Int)) = (p2 : Int) := by rw [IntWalk.i64_in _ (by omega)]; omega
        have hvn : (b0 && vB s G (i + 1)) = (b0 && vB s G i && (rd G p1 == rd G p2)) := by rw [hp1, hp2, Bool.and_assoc]; rfl
        have HVN := hid hvn
        have hgn : gsum s G (i + 1) = wrap64 (gsum s G i + pVal (rd G p1)) := by rw [hp1]; show wrap64 (gsum s G i + pVal (vw s G 3 i)) = _; rw [show vw s G 3 i = rd G (3 + i) from by unfold vw; rw [if_pos hlt]]
        have HGN := hid hgn
        have y5 : IntKind.i64.wrap (gsum s G i + pVal (rd G p1)) = wrap64 (gsum s G i + pVal (rd G p1)) := by rw [IntKind.wrap_i64]; unfold wrap64; first | rfl | omega
        have D1 := hid d1
        clear hp1 hp2 hnq hvn hgn d1
        generalize (b0 && vB s G i) = bi at *
        generalize gsum s G i = gi at *
        cases bi
        all_goals
          have d1 := D1.out
          go_wp2_with fail
          go_quiet (fail)
          go_wp2_with fail
          refine (ref1_Value _ _).mono ?_
          rintro e w2 ⟨rfl, rfl⟩
          go_wp2_with fail
          go_roundw
          case rel => exact ⟨i + 1, by omega, by rw [HVN.out]; first | rfl | simp, by rw [HGN.out], by go_num, HKL.out.drewN nq⟩
          case measure => simp [intOf]; omega
      · obtain rfl : i = s := by omega
        have hb1 := HCAL.out
        have hres := HRES.out
        have y2 : IntKind.i64.wrap (lf - 1) = lf - 1 := IntWalk.i64_in _ (by omega)
        have d2 := HGR.out.cell 2 (by rw [HGL.out]; exact k2)
        have zr := HGR.out.lt
        rw [hb1, HGS.out] at hres
        have HRES2 := hid hres
        clear hb1 HRES HCAL hres
        generalize (b0 && vB i G i) = bi at *
        generalize gsum i G i = gi at *
        have h5 := ((HYR.out.set 2 (i64 (lf - 1))).set 4 (.slice none 0 0))
        simp only [List.set_cons_succ, List.set_cons_zero] at h5
        have HY5 := hid h5
        have HK5 := hid (((HKR.out.mono (T := fun k => k = y) (fun _ h => h.elim)).set ⟨y, 2, none⟩ (i64 (lf - 1)) (fun _ => rfl)).set ⟨y, 4, none⟩ (.slice none 0 0) (fun _ => rfl))
        have D2 := hid (((show Keep (fun k => k = y) wr _ from ((Keep.refl (fun k => k = y) wr).set ⟨y, 2, none⟩ (i64 (lf - 1)) (fun _ => rfl)).set ⟨y, 4, none⟩ (.slice none 0 0) (fun _ => rfl))).ints HGR.out (HGY.out))
        clear h5 d2 zr
        go_upto_region 10 with fail
        generalize (wr.setCell ⟨y, 2, none⟩ (i64 (lf - 1))).setCell ⟨y, 4, none⟩ (.slice none 0 0) = w5 at *
        have q5 := HY5.out.k10
        have d2 := D2.out.cell 2 (by rw [HGL.out]; exact k2)
        have zr := D2.out.lt
        have hres := HRES2.out
        clear qr HYR HGR HKR HKL HRES2
        cases bi
        · by_cases hz : lf - 1 = 0
          · have g1 : (lf - 1 == 0) = true := by simpa using hz
            simp only [Bool.false_eq_true, hz, ↓reduceIte] at hres
            obtain ⟨rfl, rfl, rfl⟩ := hres
            clear hz
            have hfin := (((((HY5.out.set 5 (i64 0)).set 6 (i64 (rd G 2))).set 7 (.bool false)).set 8 (i64 0)).set 9 (.bool true))
            simp only [List.set_cons_succ, List.set_cons_zero] at hfin
            have HF := hid hfin
            clear hfin
            go_wp2_with fail
            go_end0
            exact ⟨rfl, HK5.out.trans (show Keep (fun k => k = y) w5 _ from by repeat (with_reducible first | exact Keep.refl _ _ | refine Keep.set ?_ _ _ (fun _ => rfl))) (fun _ _ h => h), HF.out⟩
          · have g1 : (lf - 1 == 0) = false := by simpa using hz
            simp only [Bool.false_eq_true, hz, ↓reduceIte] at hres
            obtain ⟨rfl, rfl, rfl⟩ := hres
            clear hz
            have HF := HY5
            go_wp2_with fail
            go_end0
            exact ⟨rfl, HK5.out.trans (show Keep (fun k => k = y) w5 _ from by repeat (with_reducible first | exact Keep.refl _ _ | refine Keep.set ?_ _ _ (fun _ => rfl))) (fun _ _ h => h), HF.out⟩
        · rw [if_pos rfl, if_pos rfl, if_pos rfl] at hres
          obtain ⟨rfl, rfl, rfl⟩ := hres
          have hfin := (((((HY5.out.set 5 (i64 0)).set 6 (i64 rn)).set 7 (.bool true)).set 8 (i64 0)).set 9 (.bool true))
          simp only [List.set_cons_succ, List.set_cons_zero] at hfin
          have HF := hid hfin
          clear hfin
          go_wp2_with fail
          go_end0
          exact ⟨rfl, HK5.out.trans (show Keep (fun k => k = y) w5 _ from by repeat (with_reducible first | exact Keep.refl _ _ | refine Keep.set ?_ _ _ (fun _ => rfl))) (fun _ _ h => h), HF.out⟩
end
end Go.Proofs.Ytlkniogapdhcpaa


namespace Go.Proofs.Ytlkniogapdhcpaa
open Go.RowKit
set_option linter.unusedVariables false
set_option linter.unusedSimpArgs false
set_option maxRecDepth 100000
def r7cs (b s : Nat) (pk : Bool) (A : Option Addr) (c n : Nat) (t : SN) : List Value := [i64 (b : Int), i64 (s : Int), i64 t.left, .bool pk, .slice A n c, i64 0, i64 t.n, .bool t.ex, i64 0, .bool t.fin]
structure R7 (b s : Nat) (pk : Bool) (w : World) (y : Nat) (A : Option Addr) (t : SN) : Prop where
  at_ : ∃ c n, Blk w y 88 (r7cs b s pk A c n t) ∧ (t.fin = false → n = t.got.length ∧ w.ownsRow 0 3 1 (.slice A n c) n (ints t.got)) ∧ (t.fin = true → A = none)
def RS (y : Nat) (A : Option Addr) (k : Nat) : Prop := k = y ∨ (Value.slice A 0 0).ownBlock = some k
section
variable {B : Nat} {w w' : World} {m y : Nat} {A Ag : Option Addr} {ca : Nat} {lv : Value} {b s : Nat} {pk : Bool} {t : SN}
theorem R7.lt (h : R7 b s pk w y Ag t) : ∀ k, RS y Ag k → k < w.heap.size := by
  obtain ⟨c, n, h1, h2, h3⟩ := h.at_
  rintro k (rfl | hk)
  · exact h1.lt
  · cases hf : t.fin with
    | true => rw [h3 hf] at hk; simp [Value.ownBlock] at hk
    | false =>
      obtain ⟨_, ho⟩ := h2 hf
      rcases ho.2 with ⟨e, _⟩ | ⟨g, cap, cur, e, _, hg, _⟩
      · cases e; simp [Value.ownBlock] at hk
      · cases e
        have : g = k := by simpa [Value.ownBlock] using hk
        subst this
        exact (Array.getElem?_eq_some_iff.1 hg).1
theorem R7.keep {S : Nat → Prop} (h : R7 b s pk w y Ag t) (hk : Keep S w w') (hS : ∀ k, RS y Ag k → ¬ S k) : R7 b s pk w' y Ag t := by
  obtain ⟨c, n, h1, h2, h3⟩ := h.at_
  exact ⟨c, n, hk.blk h1 (hS _ (Or.inl rfl)), fun hf => ⟨(h2 hf).1, ownsRow_keep (h2 hf).2 hk (fun k hkk => hS k (Or.inr ((own_any _ _ _ _ _).trans hkk)))⟩, h3⟩
theorem R7.poke (h : R7 b s pk w y Ag t) (i : Nat) (x : Int) : R7 b s pk w y Ag (nPk t i x) := ⟨h.at_⟩
def R7P (B : Nat) (w : World) (m y : Nat) (A Ag : Option Addr) (lv : Value) (b s : Nat) (pk : Bool) (t : SN) (w' : World) : Prop :=
  ∃ A' c' lv' Ag', RefAt B w' m A' c' lv' t.W t.L ∧ R7 b s pk w' y Ag' t ∧ (∀ k, RS y Ag' k → ¬ RF m A' lv' k) ∧ Keep (fun c => (c = m ∨ lv.ownBlock = some c) ∨ c = y) w w' ∧
    (∀ c, (Value.slice A' 0 0).ownBlock = some c → (Value.slice A 0 0).ownBlock = some c ∨ w.heap.size ≤ c) ∧ (∀ c, lv'.ownBlock = some c → lv.ownBlock = some c ∨ w.heap.size ≤ c) ∧ (∀ c, (Value.slice Ag' 0 0).ownBlock = some c → (Value.slice Ag 0 0).ownBlock = some c ∨ w.heap.size ≤ c)
set_option maxHeartbeats 1000000 in
theorem r7_step_end {x3 x4 x5 x6 x7 x8 x9 : Value} (hy : Blk w y 88 [i64 (b : Int), i64 (s : Int), x3, x4, x5, x6, x7, x8, x9, .bool true]) :
    Calls Try.prog 38 #[ptr y, ptr m] w fun e w' => e = .returned (.bool true) ∧ w = w' := by
  have qy := hy.k10
  clear hy
  go_enter Try.func38, Try.ntmps38
  go_wp2_with fail
  go_ret
  exact ⟨rfl, rfl⟩
/-- the far blocks behind an access of the reference Mem -/
theorem r7_far {A2 : Option Addr} {lv2 : Value} (hR : ∀ k, RS y Ag k → ¬ RF m A lv k) (hl : ∀ k, RS y Ag k → k < w.heap.size)
    (ha : ∀ c, (Value.slice A2 0 0).ownBlock = some c → (Value.slice A 0 0).ownBlock = some c ∨ w.heap.size ≤ c) (hlv : ∀ c, lv2.ownBlock = some c → lv.ownBlock = some c ∨ w.heap.size ≤ c) : ∀ k, RS y Ag k → ¬ RF m A2 lv2 k := by
  rintro k hk (h | h | h)
  · exact hR k hk (Or.inl h)
  · rcases ha k h with h | h
    · exact hR k hk (Or.inr (Or.inl h))
    · have := hl k hk; omega
  · rcases hlv k h with h | h
    · exact hR k hk (Or.inr (Or.inr h))
    · have := hl k hk; omega
theorem r7_no (hR : ∀ k, RS y Ag k → ¬ RF m A lv k) : ∀ k, RS y Ag k → ¬ (k = m ∨ lv.ownBlock = some k) := by
  rintro k hk (h | h)
  · exact hR k hk (Or.inl h)
  · exact hR k hk (Or.inr (Or.inr h))
set_option maxHeartbeats 2000000 in
theorem r7_peek (hm : RefAt B w m A ca lv t.W t.L) (hy : R7 b s true w y Ag t) (hf : t.fin = false) (hR : ∀ k, RS y Ag k → ¬ RF m A lv k) (hb : b < t.W.length) (hx : t.ex = false) (hL : t.L.length ≤ 1000000000) (hg : Ag = none) :
    Calls Try.prog 38 #[ptr y, ptr m] w fun e w' => e = .returned (.bool true) ∧ R7P B w m y A Ag lv b s true (gNext b t) w' := by
  obtain ⟨c, n, h1, h2, _⟩ := hy.at_
  have hlt := hy.lt
  subst hg
  have hgn : gNext b t = { t with L := t.L ++ [⟨1, (b : Nat), rd t.W b, 0, false⟩], n := rd t.W b, fin := true } := by unfold gNext; rw [if_neg (by rw [hf]; decide)]
  rw [hgn]
  unfold r7cs at h1
  rw [hf, hx] at h1
  have HY := hid h1
  have qy := h1.k10
  have HM := hid hm
  clear h1 hm
  go_enter Try.func38, Try.ntmps38
  go_wp2_with fail
  refine (ref_Load (b : Int) HM.out (by omega) (by omega) hL).mono ?_
  rintro e w2 ⟨rfl, A2, c2, lv2, hm2, hk2, ha2, hl2⟩
  rw [Int.toNat_natCast] at *
  have HM2 := hid hm2
  have HK2 := hid hk2
  have HY2 := hid (hk2.blk HY.out (r7_no hR y (Or.inl rfl)))
  have HFA := hid (r7_far hR hlt ha2 hl2)
  have HA2 := hid ha2
  have HL2 := hid hl2
  have qy2 := HY2.out.k10
  clear hm2 hk2 ha2 hl2 qy
  have hfin := (((((HY2.out.set 5 (i64 0)).set 6 (i64 (rd t.W b))).set 7 (.bool false)).set 8 (i64 0)).set 9 (.bool true))
  simp only [List.set_cons_succ, List.set_cons_zero] at hfin
  have HF := hid hfin
  clear hfin
  go_wp2_with fail
  go_ret
  have hkk : Keep (fun k => k = y) w2 _ := (((((Keep.refl (fun k => k = y) w2).set ⟨y, 5, none⟩ (i64 0) (fun _ => rfl)).set ⟨y, 6, none⟩ (i64 (rd t.W b)) (fun _ => rfl)).set ⟨y, 7, none⟩ (.bool false) (fun _ => rfl)).set ⟨y, 8, none⟩ (i64 0) (fun _ => rfl)).set ⟨y, 9, none⟩ (.bool true) (fun _ => rfl)
  exact ⟨rfl, A2, c2, lv2, none, HM2.out.keep hkk (fun k h e => HFA.out y (Or.inl rfl) (e ▸ h)), ⟨⟨c, n, by unfold r7cs; rw [hx]; exact HF.out, (fun h => by cases h), fun _ => rfl⟩⟩, HFA.out, (HK2.out.mono (fun _ h => Or.inl h)).trans hkk (fun _ _ h => Or.inr h), HA2.out, HL2.out, fun k h => by simp [Value.ownBlock] at h⟩
theorem rf_lt {W : List Int} {L : List Acc} (hm : RefAt B w m A ca lv W L) : ∀ k, RF m A lv k → k < w.heap.size := by
  rintro k (rfl | h | h)
  · exact hm.mem.lt
  · exact (hm.words.lt k ((own_any _ _ _ _ _).trans h)).2
  · exact (hm.log.lt k h).2
theorem nNext_done {vv : Int} {G : List Int} {rn : Int} {rx re : Bool} (hf : t.fin = false) (hlen : t.got.length + 1 = 4 + 2 * s) (hG : G = t.got) (hvv : vv = rd t.W (wat b s t.got.length))
    (hres : rn = (if calmB s (G ++ [vv]) = true then gsum s (G ++ [vv]) 8 else if t.left - 1 = 0 then rd (G ++ [vv]) 2 else t.n) ∧ rx = (if calmB s (G ++ [vv]) = true then true else if t.left - 1 = 0 then false else t.ex) ∧ re = (if calmB s (G ++ [vv]) = true then true else if t.left - 1 = 0 then true else false)) :
    ∃ got', nNext b s t = ⟨t.W, t.L ++ [⟨1, (wat b s t.got.length : Nat), rd t.W (wat b s t.got.length), 0, false⟩], t.left - 1, got', rn, rx, re⟩ ∧ (re = false → got' = []) := by
  obtain ⟨h1, h2, h3⟩ := hres
  have e : nNext b s t = clN s { t with L := t.L ++ [⟨1, (wat b s t.got.length : Nat), rd t.W (wat b s t.got.length), 0, false⟩] } (G ++ [vv]) := by
    unfold nNext
    rw [if_neg (by rw [hf]; decide), if_pos hlen, hG, hvv]
  rw [e]
  unfold clN
  by_cases hc : calmB s (G ++ [vv]) = true
  · rw [if_pos hc] at h1 h2 h3 ⊢
    subst h1 h2 h3
    exact ⟨_, rfl, fun h => by cases h⟩
  · rw [if_neg hc] at h1 h2 h3 ⊢
    by_cases hz : t.left - 1 = 0
    · rw [if_pos hz] at h1 h2 h3
      rw [if_pos (show ({ t with L := t.L ++ [⟨1, (wat b s t.got.length : Nat), rd t.W (wat b s t.got.length), 0, false⟩] } : SN).left - 1 = 0 from hz)]
      subst h1 h2 h3
      exact ⟨_, rfl, fun h => by cases h⟩
    · rw [if_neg hz] at h1 h2 h3
      rw [if_neg (show ¬ ({ t with L := t.L ++ [⟨1, (wat b s t.got.length : Nat), rd t.W (wat b s t.got.length), 0, false⟩] } : SN).left - 1 = 0 from hz)]
      subst h1 h2 h3
      exact ⟨[], by rw [← hf], fun _ => rfl⟩
theorem r7_fin {w1 w2 wc : World} {A2 Ag' : Option Addr} {c2 : Nat} {lv2 : Value} {W : List Int} {L : List Acc} {u : SN} (hu : u.W = W ∧ u.L = L) (hk1 : Keep0 w w1) (hm2 : RefAt B w2 m A2 c2 lv2 W L) (hk2 : Keep (fun k => k = m ∨ lv.ownBlock = some k) w1 w2)
    (hfa : ¬ RF m A2 lv2 y) (ha2 : ∀ c, (Value.slice A2 0 0).ownBlock = some c → (Value.slice A 0 0).ownBlock = some c ∨ w1.heap.size ≤ c) (hl2 : ∀ c, lv2.ownBlock = some c → lv.ownBlock = some c ∨ w1.heap.size ≤ c) (hkc : Keep (fun k => k = y) w2 wc)
    (hr : R7 b s false wc y Ag' u) (hnew : ∀ k, (Value.slice Ag' 0 0).ownBlock = some k → w2.heap.size ≤ k) : R7P B w m y A Ag lv b s false u wc := by
  obtain ⟨rfl, rfl⟩ := hu
  refine ⟨A2, c2, lv2, Ag', hm2.keep hkc (fun k h e => hfa (e ▸ h)), hr, ?_, ((hk1.mono (T := fun c => (c = m ∨ lv.ownBlock = some c) ∨ c = y) (fun _ h => h.elim)).trans hk2 (fun _ _ h => Or.inl h)).trans hkc (fun _ _ h => Or.inr h), fun c h => (ha2 c h).imp id (fun h => Nat.le_trans hk1.size h), fun c h => (hl2 c h).imp id (fun h => Nat.le_trans hk1.size h), fun c h => Or.inr (Nat.le_trans hk1.size (Nat.le_trans hk2.size (hnew c h)))⟩
  rintro k (rfl | hk) h
  · exact hfa h
  · have h1 := hnew k hk
    have h2 := rf_lt hm2 k h
    omega
set_option maxHeartbeats 4000000 in
theorem r7_count (hm : RefAt B w m A ca lv t.W t.L) (hy : R7 b s false w y Ag t) (hf : t.fin = false) (hR : ∀ k, RS y Ag k → ¬ RF m A lv k) (hi : NInv b s t) (hb : b ≤ 1000000) (hL : t.L.length ≤ 1000000000) :
    Calls Try.prog 38 #[ptr y, ptr m] w fun e w' => e = .returned (.bool (nNext b s t).fin) ∧ R7P B w m y A Ag lv b s false (nNext b s t) w' := by
  obtain ⟨c, n, h1, h2, _⟩ := hy.at_
  have hlt := hy.lt
  obtain ⟨hn, ho⟩ := h2 hf
  have hs8 := hi.s1
  have hlb : 1 ≤ t.left ∧ t.left ≤ 1000 := ⟨hi.lb hf, hi.lt⟩
  have hig := hi.gb hf
  have hwat := wat_bd (b := b) hs8.1 hig
  have hln := hi.ln
  have HFIN := hid hf
  subst hn
  clear hy h2 hi
  unfold r7cs at h1
  rw [hf] at h1
  have HY := hid h1
  have HO := hid ho
  have HM := hid hm
  have qy := h1.k10
  clear ho hm hf
  have hword := ref7_word (t.got.length) h1 hb hs8 hig
  have HW := hid hword
  clear hword h1
  go_enter Try.func38, Try.ntmps38
  go_wp2_with fail
  refine HW.out.mono ?_
  rintro e w1 ⟨rfl, hk1⟩
  have HM1 := hid (HM.out.keep hk1 (fun _ _ h => h))
  have HY1 := hid (hk1.blk HY.out (fun h => h))
  have HO1 := hid (ownsRow_keep HO.out hk1 (fun _ _ h => h))
  have hlt1 : ∀ k, RS y Ag k → k < w1.heap.size := fun k h => Nat.lt_of_lt_of_le (hlt k h) hk1.size
  have HK1 := hid hk1
  clear hk1 HM HY HO qy HW
  have qy1 := HY1.out.k10
  go_wp2_with fail
  refine (ref_Load ((wat b s t.got.length : Nat) : Int) HM1.out (by omega) (by omega) hL).mono ?_
  rintro e w2 ⟨rfl, A2, c2, lv2, hm2, hk2, ha2, hl2⟩
  rw [Int.toNat_natCast] at *
  have HM2 := hid hm2
  have HK2 := hid hk2
  have HY2 := hid (hk2.blk HY1.out (r7_no hR y (Or.inl rfl)))
  have HO2 := hid (ownsRow_keep HO1.out hk2 (fun k hk => r7_no hR k (Or.inr ((own_any _ _ _ _ _).trans hk))))
  have HFA := hid (r7_far hR hlt1 ha2 hl2)
  have HA2 := hid ha2
  have HL2 := hid hl2
  have qy2 := HY2.out.k10
  clear hm2 hk2 ha2 hl2 qy1 HY1 HM1 HO1
  obtain ⟨vv, hvv⟩ : ∃ v, v = rd t.W (wat b s t.got.length) := ⟨_, rfl⟩
  rw [← hvv]
  have HVV := hid hvv
  obtain ⟨i, hgi⟩ : ∃ v, v = t.got.length := ⟨_, rfl⟩
  rw [← hgi] at HO2 HY2 qy2 hig
  obtain ⟨G, hG⟩ : ∃ v, v = t.got := ⟨_, rfl⟩
  have HG := hid hG
  rw [← hG] at HO2
  have HGI := hid (show G.length = i by rw [hG, hgi])
  clear hvv hG hgi
  obtain ⟨i0, hti, hz0, hz1, hz2⟩ := info_parts info_int
  have HI := hid hti
  clear hti
  have HK8' : Keep0 w2 (w2.alloc (.cells #[] 3)) := (Keep.refl _ _).alloc _
  rcases HO2.out.2 with ⟨e, h0⟩ | ⟨g, cap, cur, e, _, hgb, _⟩
  · obtain ⟨rfl, hi0, rfl⟩ : Ag = none ∧ i = 0 ∧ c = 0 := by cases e; exact ⟨rfl, rfl, rfl⟩
    have hG0 : G = [] := List.eq_nil_of_length_eq_zero (by rw [HGI.out, hi0])
    obtain ⟨A8, hA8⟩ : ∃ A, A = some (⟨w2.heap.size, 0, none⟩ : Addr) := ⟨_, rfl⟩
    obtain ⟨c8, hc8⟩ : ∃ c : Nat, c = 0 := ⟨_, rfl⟩
    have HO8 := hid (show (w2.alloc (.cells #[] 3)).ownsRow w2.heap.size 3 1 (.slice A8 i c8) i (ints G) from by rw [hA8, hc8, hi0, hG0]; exact World.ownsRow_made w2 #[] 0 (Nat.le_refl _) (by unfold maxLen; omega) (by simp))
    have TY := hid (HY2.out.alloc (.cells #[] 3))
    have HK8 := hid HK8'
    have qy8 := TY.out.k10
    obtain ⟨gv, hgv⟩ : ∃ gv, gv = Value.slice none i 0 := ⟨_, rfl⟩
    rw [← hgv] at HY2 TY qy2 qy8
    have HGV := hid (show gv = .slice none 0 0 by rw [hgv, hi0])
    have HA8 := hid hA8
    have HC8 := hid hc8
    have HI0 := hid hi0
    clear hG0 HK8' h0 hgv qy2 hA8 hc8 hi0 e
    have qy2 := HY2.out.k10
    go_wp2_with first | (at_builtin; refine wpl_append_none rfl (.tmp 37) (.tmp 41) 33 rfl 3 i0 Try.underlying33 HI.out ⟨w2.heap.size, 0, none⟩ 0 0 rfl gv rfl HGV.out (Nat.le_refl _) A8 i c8 HA8.out HI0.out HC8.out ?_; clear qy2) | (at_builtin; refine wpl_append_own ?a1 (.tmp 42) (.tmp 44) 33 ?a2 (w2.heap.size) 3 i0 ?z2 1 8 ?a3 ?a4 ?a5 ?a6 ?a7 ?a8 ?a9 (.slice A8 i c8) (i) (ints G) ?a10 ?hown (⟨w2.heap.size + 1, 0, none⟩) (1) (1) ([i64 vv]) ?a11 ?a12 ?hnews ?hone ?h63 ?hby ?hbase ?_; (case a1 => rfl); (case a2 => rfl); (case a3 => exact Try.underlying33); (case a4 => exact HI.out); (case a5 => exact hz0); (case a6 => exact hz1); (case a7 => exact hz2); (case a8 => rfl); (case a9 => decide); (case a10 => rfl); (case a11 => rfl); (case a12 => rfl); (case hown => exact ownsRow_keep (S := fun _ => False) HO8.out ((Keep.refl _ _).alloc _) (fun _ _ h => h)); (case h63 => unfold maxLen; omega); (case hby => omega); (case hnews => exact news_at (Blk.made (by simp) rfl)); (case hone => simp [Value.oneCell']); (case hbase => have := HK8.out.size; simp; omega); intro A9 c9 w9 hown9 hg9 hsl9; have TY9 := hid (grown_blk hg9 (TY.out.alloc _) (ownBlock_ne (ownsRow_keep (S := fun _ => False) HO8.out ((Keep.refl _ _).alloc _) (fun _ _ h => h)) (TY.out.alloc (.cells #[i64 vv] 3)) (by decide))); have qy9 := TY9.out.k10; have HK9 := hid (Keep.grown (HK8.out.alloc _) hg9 (fun k hk e => by have := (HO8.out.lt k e).1; omega)); have HO9 := hid hown9; clear hown9 hg9 hsl9 qy8)
    have HK9' := HK9
    obtain ⟨g9, rfl, hgi9, hgz9⟩ := ints_own (l := G ++ [vv]) (show w9.ownsRow w2.heap.size 3 1 (.slice A9 (i + 1) c9) (i + 1) (ints (G ++ [vv])) from by simpa [ints] using HO9.out) (by omega) (by rw [List.length_append, HGI.out]; rfl)
    have HG9 := hid hgi9
    have hgy : ¬ g9 = y := fun e => by have := HY2.out.lt; omega
    have HG91 := hid (show (G ++ [vv]).length = i + 1 by rw [List.length_append, HGI.out]; rfl)
    have HO92 := hid (show w9.ownsRow 0 3 1 (.slice (some ⟨g9, 0, none⟩) (i + 1) c9) (i + 1) (ints (G ++ [vv])) from own_base7 (by simpa [ints] using HO9.out) (Nat.zero_le _))
    generalize hi1 : i + 1 = i1 at *
    have HI1 := hid hi1
    obtain ⟨wa, hwa⟩ : ∃ v, v = w9.setCell ⟨y, 4, none⟩ (.slice (some ⟨g9, 0, none⟩) i1 c9) := ⟨_, rfl⟩
    have hka : Keep (fun k => k = y) w9 wa := by rw [hwa]; exact (Keep.refl _ _).set _ _ (fun _ => rfl)
    have hya := TY9.out.set 4 (.slice (some ⟨g9, 0, none⟩) i1 c9)
    simp only [List.set_cons_succ, List.set_cons_zero] at hya
    rw [← hwa] at hya
    rw [← hwa]
    have HYA := hid hya
    have HGA := hid (hka.ints HG9.out hgy)
    have HOA := hid (ownsRow_keep HO92.out hka (fun k e => by have h9 : g9 = k := (by simpa [Value.ownBlock] using e); omega))
    have HKA := hid ((HK9.out.mono (T := fun k => k = y) (fun _ h => h.elim)).trans hka (fun _ _ h => h))
    have qya := hya.k10
    have y2 : IntKind.i64.wrap (2 * (s : Int)) = 2 * (s : Int) := IntWalk.i64_in _ (by omega)
    have y3 : IntKind.i64.wrap (4 + 2 * (s : Int)) = 4 + 2 * (s : Int) := IntWalk.i64_in _ (by omega)
    clear hwa hka hya qy9 TY9 HO9 HO8 TY HG9 HK8 HK9 HK9' hgi9 HO92 hi1
    go_quiet (fail)
    obtain ⟨wb, hwb⟩ : ∃ v, v = wa.drewN nq := ⟨_, rfl⟩
    rw [← hwb]
    have HYB := hid (show Blk wb y 88 _ from by rw [hwb]; exact HYA.out.drewN nq)
    have HGB := hid (show Ints wb g9 (G ++ [vv]) from by rw [hwb]; exact HGA.out.drewN nq)
    have HOB := hid (show wb.ownsRow 0 3 1 (.slice (some ⟨g9, 0, none⟩) i1 c9) i1 (ints (G ++ [vv])) from by rw [hwb]; exact HOA.out)
    have HKB := hid (show Keep (fun k => k = y) w2 wb from by rw [hwb]; exact HKA.out.drewN nq)
    have qyb := HYB.out.k10
    clear qya HYA HGA HOA HKA hwb
    by_cases hd : i1 = 4 + 2 * s
    · have g1 : ((i1 : Int) == 4 + 2 * (s : Int)) = true := by simp; omega
      have hcl := ref7_closed (G ++ [vv]) i1 hd HYB.out HGB.out hgy HG91.out hs8 hlb
      have HD := hid hd
      clear hd
      obtain ⟨rn, hrn⟩ : ∃ v, v = (if calmB s (G ++ [vv]) = true then gsum s (G ++ [vv]) 8 else if t.left - 1 = 0 then rd (G ++ [vv]) 2 else t.n) := ⟨_, rfl⟩
      obtain ⟨rx, hrx⟩ : ∃ v, v = (if calmB s (G ++ [vv]) = true then true else if t.left - 1 = 0 then false else t.ex) := ⟨_, rfl⟩
      obtain ⟨re, hre⟩ : ∃ v, v = (if calmB s (G ++ [vv]) = true then true else if t.left - 1 = 0 then true else false) := ⟨_, rfl⟩
      rw [← hrn, ← hrx, ← hre] at hcl
      have HR3 := hid (And.intro hrn (And.intro hrx hre))
      have HCL := hid hcl
      clear hrn hrx hre hcl
      go_wp2_with fail
      refine HCL.out.mono ?_
      rintro e wc ⟨rfl, hkc, hyc⟩
      have HYC := hid hyc
      have HKC := hid (HKB.out.trans hkc (fun _ _ h => h))
      have qyc := hyc.k10
      clear hkc hyc qyb HCL
      go_wp2_with fail
      go_ret
      obtain ⟨got', e1, e2⟩ := nNext_done (b := b) HFIN.out (by have h1 := HD.out; have h2 := HI1.out; have h3 := HGI.out; rw [HG.out] at h3; omega) HG.out HVV.out HR3.out
      rw [e1]
      exact ⟨rfl, r7_fin (Ag' := none) ⟨rfl, rfl⟩ HK1.out HM2.out HK2.out (HFA.out y (Or.inl rfl)) HA2.out HL2.out HKC.out ⟨⟨0, 0, HYC.out, fun h => by rw [e2 h]; exact ⟨rfl, World.ownsRow_nil _ _ _ _⟩, fun _ => rfl⟩⟩ (fun k h => by simp [Value.ownBlock] at h)⟩
    · have g1 : ((i1 : Int) == 4 + 2 * (s : Int)) = false := beq_eq_false_iff_ne.2 (by omega)
      have HD := hid hd
      clear hd
      go_wp2_with fail
      go_ret
      have e1 : nNext b s t = { t with L := t.L ++ [⟨1, (wat b s t.got.length : Nat), rd t.W (wat b s t.got.length), 0, false⟩], got := G ++ [vv] } := by
        unfold nNext
        rw [if_neg (by rw [HFIN.out]; decide), if_neg (by have h1 := HD.out; have h2 := HI1.out; have h3 := HGI.out; rw [HG.out] at h3; omega), HG.out, HVV.out]
      rw [e1]
      exact ⟨congrArg (fun b => Ending.returned (Value.bool b)) HFIN.out.symm, r7_fin (Ag' := some ⟨g9, 0, none⟩) ⟨rfl, rfl⟩ HK1.out HM2.out HK2.out (HFA.out y (Or.inl rfl)) HA2.out HL2.out HKB.out ⟨⟨c9, i1, by unfold r7cs; rw [show ({ t with L := t.L ++ [⟨1, (wat b s t.got.length : Nat), rd t.W (wat b s t.got.length), 0, false⟩], got := G ++ [vv] } : SN).fin = false from HFIN.out]; exact HYB.out, fun _ => ⟨HG91.out.symm, HOB.out⟩, fun h => by rw [show ({ t with L := t.L ++ [⟨1, (wat b s t.got.length : Nat), rd t.W (wat b s t.got.length), 0, false⟩], got := G ++ [vv] } : SN).fin = false from HFIN.out] at h; cases h⟩⟩ (fun k h => by have h9 : g9 = k := (by simpa [Value.ownBlock] using h); omega)⟩
  · cases e
    have hce := HO2.out.cells (g := g) rfl
    have HCE := hid hce
    clear hce hgb
    have hi9 : i ≤ 1000 := by omega
    obtain ⟨cg, hcg⟩ : ∃ cg, cg = c := ⟨_, rfl⟩
    subst hcg
    go_wp2_with first | (at_builtin; refine wpl_append_own ?a1 (.tmp 37) (.tmp 41) 33 ?a2 (w2.heap.size) 3 i0 ?z 1 8 ?a3 ?a4 ?a5 ?a6 ?a7 ?a8 ?a9 (.slice (some ⟨w2.heap.size, 0, none⟩) 0 0) (0) ([]) ?a10 ?hown (⟨g, 0, none⟩) (i) (cg) (ints G) ?a11 ?a12 ?hnews ?hone ?h63 ?hby ?hbase ?_; (case a1 => rfl); (case a2 => rfl); (case a3 => exact Try.underlying33); (case a4 => exact HI.out); (case a5 => exact hz0); (case a6 => exact hz1); (case a7 => exact hz2); (case a8 => rfl); (case a9 => decide); (case a10 => rfl); (case a11 => rfl); (case a12 => have h := HGI.out; simp [ints, h]); (case hown => exact World.ownsRow_made w2 #[] 0 (Nat.le_refl _) (by unfold maxLen; omega) (by simp)); (case h63 => unfold maxLen; omega); (case hby => omega); (case hnews => intro j u hj; have hc := HCE.out j u hj; rw [World.cell?_alloc_lt _ _ _ (World.block_lt_of_cell? _ _ hc)]; exact hc); (case hone => exact ints_one G); (case hbase => simp); intro A8 c8 w8 hown8 hg8 hsl8; have TY := hid (grown_blk hg8 (HY2.out.alloc (.cells #[] 3)) (by have := HY2.out.lt; simp [Value.ownBlock]; omega)); have qy8 := TY.out.k10; have HG8 := hid hg8; have HO8 := hid (show w8.ownsRow w2.heap.size 3 1 (.slice A8 i c8) i (ints G) from by simpa using hown8); have HK8 := hid (Keep.grown HK8' HG8.out (fun k hk e => by simp [Value.ownBlock] at e; omega)); clear hown8 hg8 hsl8 qy2) | (at_builtin; refine wpl_append_own ?a1 (.tmp 42) (.tmp 44) 33 ?a2 (w2.heap.size) 3 i0 ?z3 1 8 ?a3 ?a4 ?a5 ?a6 ?a7 ?a8 ?a9 (.slice A8 i c8) (i) (ints G) ?a10 ?hown (⟨w8.heap.size, 0, none⟩) (1) (1) ([i64 vv]) ?a11 ?a12 ?hnews ?hone ?h63 ?hby ?hbase ?_; (case a1 => rfl); (case a2 => rfl); (case a3 => exact Try.underlying33); (case a4 => exact HI.out); (case a5 => exact hz0); (case a6 => exact hz1); (case a7 => exact hz2); (case a8 => rfl); (case a9 => decide); (case a10 => rfl); (case a11 => rfl); (case a12 => rfl); (case hown => exact ownsRow_keep (S := fun _ => False) HO8.out ((Keep.refl _ _).alloc _) (fun _ _ h => h)); (case h63 => unfold maxLen; omega); (case hby => omega); (case hnews => exact news_at (Blk.made (by simp) rfl)); (case hone => simp [Value.oneCell']); (case hbase => have := HK8.out.size; simp; omega); intro A9 c9 w9 hown9 hg9 hsl9; have TY9 := hid (grown_blk hg9 (TY.out.alloc _) (ownBlock_ne (ownsRow_keep (S := fun _ => False) HO8.out ((Keep.refl _ _).alloc _) (fun _ _ h => h)) (TY.out.alloc (.cells #[i64 vv] 3)) (by decide))); have qy9 := TY9.out.k10; have HK9 := hid (Keep.grown (HK8.out.alloc _) hg9 (fun k hk e => by have := (HO8.out.lt k e).1; omega)); have HO9 := hid hown9; clear hown9 hg9 hsl9 qy8)
    have HK9' := HK9
    obtain ⟨g9, rfl, hgi9, hgz9⟩ := ints_own (l := G ++ [vv]) (show w9.ownsRow w2.heap.size 3 1 (.slice A9 (i + 1) c9) (i + 1) (ints (G ++ [vv])) from by simpa [ints] using HO9.out) (by omega) (by rw [List.length_append, HGI.out]; rfl)
    have HG9 := hid hgi9
    have hgy : ¬ g9 = y := fun e => by have := HY2.out.lt; omega
    have HG91 := hid (show (G ++ [vv]).length = i + 1 by rw [List.length_append, HGI.out]; rfl)
    have HO92 := hid (show w9.ownsRow 0 3 1 (.slice (some ⟨g9, 0, none⟩) (i + 1) c9) (i + 1) (ints (G ++ [vv])) from own_base7 (by simpa [ints] using HO9.out) (Nat.zero_le _))
    generalize hi1 : i + 1 = i1 at *
    have HI1 := hid hi1
    obtain ⟨wa, hwa⟩ : ∃ v, v = w9.setCell ⟨y, 4, none⟩ (.slice (some ⟨g9, 0, none⟩) i1 c9) := ⟨_, rfl⟩
    have hka : Keep (fun k => k = y) w9 wa := by rw [hwa]; exact (Keep.refl _ _).set _ _ (fun _ => rfl)
    have hya := TY9.out.set 4 (.slice (some ⟨g9, 0, none⟩) i1 c9)
    simp only [List.set_cons_succ, List.set_cons_zero] at hya
    rw [← hwa] at hya
    rw [← hwa]
    have HYA := hid hya
    have HGA := hid (hka.ints HG9.out hgy)
    have HOA := hid (ownsRow_keep HO92.out hka (fun k e => by have h9 : g9 = k := (by simpa [Value.ownBlock] using e); omega))
    have HKA := hid ((HK9.out.mono (T := fun k => k = y) (fun _ h => h.elim)).trans hka (fun _ _ h => h))
    have qya := hya.k10
    have y2 : IntKind.i64.wrap (2 * (s : Int)) = 2 * (s : Int) := IntWalk.i64_in _ (by omega)
    have y3 : IntKind.i64.wrap (4 + 2 * (s : Int)) = 4 + 2 * (s : Int) := IntWalk.i64_in _ (by omega)
    clear hwa hka hya qy9 TY9 HO9 HO8 TY HG9 HK8 HK9 HK9' hgi9 HO92 hi1
    go_quiet (fail)
    obtain ⟨wb, hwb⟩ : ∃ v, v = wa.drewN nq := ⟨_, rfl⟩
    rw [← hwb]
    have HYB := hid (show Blk wb y 88 _ from by rw [hwb]; exact HYA.out.drewN nq)
    have HGB := hid (show Ints wb g9 (G ++ [vv]) from by rw [hwb]; exact HGA.out.drewN nq)
    have HOB := hid (show wb.ownsRow 0 3 1 (.slice (some ⟨g9, 0, none⟩) i1 c9) i1 (ints (G ++ [vv])) from by rw [hwb]; exact HOA.out)
    have HKB := hid (show Keep (fun k => k = y) w2 wb from by rw [hwb]; exact HKA.out.drewN nq)
    have qyb := HYB.out.k10
    clear qya HYA HGA HOA HKA hwb
    by_cases hd : i1 = 4 + 2 * s
    · have g1 : ((i1 : Int) == 4 + 2 * (s : Int)) = true := by simp; omega
      have hcl := ref7_closed (G ++ [vv]) i1 hd HYB.out HGB.out hgy HG91.out hs8 hlb
      have HD := hid hd
      clear hd
      obtain ⟨rn, hrn⟩ : ∃ v, v = (if calmB s (G ++ [vv]) = true then gsum s (G ++ [vv]) 8 else if t.left - 1 = 0 then rd (G ++ [vv]) 2 else t.n) := ⟨_, rfl⟩
      obtain ⟨rx, hrx⟩ : ∃ v, v = (if calmB s (G ++ [vv]) = true then true else if t.left - 1 = 0 then false else t.ex) := ⟨_, rfl⟩
      obtain ⟨re, hre⟩ : ∃ v, v = (if calmB s (G ++ [vv]) = true then true else if t.left - 1 = 0 then true else false) := ⟨_, rfl⟩
      rw [← hrn, ← hrx, ← hre] at hcl
      have HR3 := hid (And.intro hrn (And.intro hrx hre))
      have HCL := hid hcl
      clear hrn hrx hre hcl
      go_wp2_with fail
      refine HCL.out.mono ?_
      rintro e wc ⟨rfl, hkc, hyc⟩
      have HYC := hid hyc
      have HKC := hid (HKB.out.trans hkc (fun _ _ h => h))
      have qyc := hyc.k10
      clear hkc hyc qyb HCL
      go_wp2_with fail
      go_ret
      obtain ⟨got', e1, e2⟩ := nNext_done (b := b) HFIN.out (by have h1 := HD.out; have h2 := HI1.out; have h3 := HGI.out; rw [HG.out] at h3; omega) HG.out HVV.out HR3.out
      rw [e1]
      exact ⟨rfl, r7_fin (Ag' := none) ⟨rfl, rfl⟩ HK1.out HM2.out HK2.out (HFA.out y (Or.inl rfl)) HA2.out HL2.out HKC.out ⟨⟨0, 0, HYC.out, fun h => by rw [e2 h]; exact ⟨rfl, World.ownsRow_nil _ _ _ _⟩, fun _ => rfl⟩⟩ (fun k h => by simp [Value.ownBlock] at h)⟩
    · have g1 : ((i1 : Int) == 4 + 2 * (s : Int)) = false := beq_eq_false_iff_ne.2 (by omega)
      have HD := hid hd
      clear hd
      go_wp2_with fail
      go_ret
      have e1 : nNext b s t = { t with L := t.L ++ [⟨1, (wat b s t.got.length : Nat), rd t.W (wat b s t.got.length), 0, false⟩], got := G ++ [vv] } := by
        unfold nNext
        rw [if_neg (by rw [HFIN.out]; decide), if_neg (by have h1 := HD.out; have h2 := HI1.out; have h3 := HGI.out; rw [HG.out] at h3; omega), HG.out, HVV.out]
      rw [e1]
      exact ⟨congrArg (fun b => Ending.returned (Value.bool b)) HFIN.out.symm, r7_fin (Ag' := some ⟨g9, 0, none⟩) ⟨rfl, rfl⟩ HK1.out HM2.out HK2.out (HFA.out y (Or.inl rfl)) HA2.out HL2.out HKB.out ⟨⟨c9, i1, by unfold r7cs; rw [show ({ t with L := t.L ++ [⟨1, (wat b s t.got.length : Nat), rd t.W (wat b s t.got.length), 0, false⟩], got := G ++ [vv] } : SN).fin = false from HFIN.out]; exact HYB.out, fun _ => ⟨HG91.out.symm, HOB.out⟩, fun h => by rw [show ({ t with L := t.L ++ [⟨1, (wat b s t.got.length : Nat), rd t.W (wat b s t.got.length), 0, false⟩], got := G ++ [vv] } : SN).fin = false from HFIN.out] at h; cases h⟩⟩ (fun k h => by have h9 : g9 = k := (by simpa [Value.ownBlock] using h); omega)⟩
end
end Go.Proofs.Ytlkniogapdhcpaa


namespace Go.Proofs.Ytlkniogapdhcpaa
open Go.RowKit
set_option linter.unusedVariables false
set_option linter.unusedSimpArgs false
set_option maxRecDepth 100000
section
variable {τ : Type}
set_option maxHeartbeats 4000000 in
theorem ref7_Play (Sys : Nat → World → τ → Prop) (stp : τ → τ × Bool) (pk : τ → Nat → Int → τ) (len : Nat) (y : Nat) (m : Nat) (S0 : Nat → Prop) (N : Nat) (l : List Pk) (A0 : Option Addr) (b o c : Nat) (most : Nat) (w : World) (t : τ)
    (hmost : most ≤ 1000000) (hl : l.length ≤ 1000000) (hlen : len ≤ 1000000) (hN : N ≤ w.heap.size) (hA0 : 0 < l.length → A0 = some ⟨b, o, none⟩ ∧ b < N ∧ ¬ S0 b)
    (hcells : ∀ i (h : i < l.length), w.cell? ⟨b, o + i * 3, none⟩ = some (i64 l[i].at_) ∧ w.cell? ⟨b, o + i * 3 + 1, none⟩ = some (i64 l[i].w) ∧ w.cell? ⟨b, o + i * 3 + 2, none⟩ = some (i64 l[i].x))
    (hmem : ∀ n w t, Sys n w t → ∃ A c lv, Blk w m 53 [.slice A len c, lv])
    (hkeep : ∀ n w w' t, Sys n w t → Keep (fun _ => False) w w' → Sys n w' t)
    (hpoke : ∀ n w t (i x : Int), (∃ p ∈ l, p.w = i ∧ p.x = x) → Sys n w t → 0 ≤ i → i < len → Calls Try.prog 37 #[ptr m, i64 i, i64 x] w fun e w' => e = .returned (.tuple #[]) ∧ Sys n w' (pk t i.toNat x) ∧ Keep (fun k => S0 k ∨ N ≤ k) w w')
    (hstep : ∀ n w t, n < most → Sys n w t → Calls Try.prog 38 #[ptr y, ptr m] w fun e w' => e = .returned (.bool (stp t).2) ∧ Sys (n + 1) w' (stp t).1 ∧ Keep (fun k => S0 k ∨ N ≤ k) w w')
    (hs : Sys 0 w t) :
    Calls Try.prog 20 #[ptr m, ptr y, .slice A0 l.length c, i64 most] w fun e w' =>
      e = .returned (.tuple #[i64 (playF stp pk len l most 0 t).2.1, .bool (playF stp pk len l most 0 t).2.2]) ∧ (∃ n, Sys n w' (playF stp pk len l most 0 t).1) ∧ Keep (fun k => S0 k ∨ N ≤ k) w w' := by
  go_enter Try.func20, Try.ntmps20
  go_wp2_with fail
  go_loopw [10] (fun v wr => ∃ n : Nat, n ≤ most ∧ v = .int .i64 n ∧ ∃ t', Sys n wr t' ∧ playF stp pk len l (most - n) n t' = playF stp pk len l most 0 t ∧ Keep (fun k => S0 k ∨ N ≤ k) w wr) (fun v _ => most - (intOf v).toNat)
  case atStart => exact ⟨0, Nat.zero_le _, rfl, t, hs, rfl, Keep.refl _ _⟩
  case round =>
    obtain ⟨n, hn, rfl, t', hs', hpl, hk⟩ := hrel
    have HPL := hid hpl
    have HS' := hid hs'
    have HK := hid hk
    clear hpl hs' hk hs
    by_cases hlt : n < most
    · go_wp2_with fail
      obtain ⟨wo, rfl⟩ : ∃ wo : World, wo = wr := ⟨_, rfl⟩
      go_loopw [11] (fun v wi => ∃ j : Nat, j ≤ l.length ∧ v = .int .i64 j ∧ Sys n wi (pokeAll pk len n (l.take j) t') ∧ Keep (fun k => S0 k ∨ N ≤ k) wo wi) (fun v _ => l.length - (intOf v).toNat)
      case atStart => exact ⟨0, Nat.zero_le _, rfl, HS'.out, Keep.refl _ _⟩
      case round =>
        obtain ⟨j, hj, rfl, hsj, hkj⟩ := hrel
        have HSJ := hid hsj
        have HKJ := hid hkj
        clear hsj hkj
        by_cases hjl : j < l.length
        · obtain ⟨rfl, hb, hbS⟩ := hA0 (by omega)
          have hbw : b < wo.heap.size := Nat.lt_of_lt_of_le hb (Nat.le_trans hN HK.out.size)
          have hbS' : ¬ (S0 b ∨ N ≤ b) := fun h => h.elim hbS (by omega)
          obtain ⟨a1, a2, a3⟩ := hcells j hjl
          rw [← cell_old HK.out (Nat.lt_of_lt_of_le hb hN) hbS'] at a1 a2 a3
          have hnext : pokeAll pk len n (l.take (j + 1)) t' = if l[j].at_ = n ∧ 0 ≤ l[j].w ∧ l[j].w < (len : Int) then pk (pokeAll pk len n (l.take j) t') l[j].w.toNat l[j].x else pokeAll pk len n (l.take j) t' := by
            exact pokeAll_snoc pk len n l j hjl t'
          have hinl : ∃ p ∈ l, p.w = l[j].w ∧ p.x = l[j].x := ⟨l[j], List.getElem_mem hjl, rfl, rfl⟩
          have HIN := hid hinl
          clear hinl
          generalize l[j].at_ = pa at *
          generalize l[j].w = pw at *
          generalize l[j].x = px at *
          have HN := hid hnext
          clear hnext
          have HCL := hid (fun (wx : World) (hk : Keep (fun k => S0 k ∨ N ≤ k) wo wx) => (⟨(cell_old hk hbw hbS' _).trans a1, (cell_old hk hbw hbS' _).trans a2, (cell_old hk hbw hbS' _).trans a3, Nat.lt_of_lt_of_le hbw hk.size⟩ : wx.cell? ⟨b, o + j * 3, none⟩ = some (i64 pa) ∧ wx.cell? ⟨b, o + j * 3 + 1, none⟩ = some (i64 pw) ∧ wx.cell? ⟨b, o + j * 3 + 2, none⟩ = some (i64 px) ∧ b < wx.heap.size))
          obtain ⟨mA, mc, mlv, hmb⟩ := hmem _ _ _ HSJ.out
          have HMB := hid hmb
          clear hmb a1 a2 a3
          by_cases hA : pa = n
          · have g1 : (pa == (n : Int)) = true := by simpa using hA
            have HA := hid hA
            clear hA
            by_cases hB : 0 ≤ pw
            · have g2 : decide (0 ≤ pw) = true := by simpa using hB
              by_cases hC : pw < (len : Int)
              · have g3 : decide (pw < (len : Int)) = true := by simpa using hC
                go_wp2_with fail
                apply wp_region_text (WI := fun S wx => Keep0 wr wx) (by kernel_rfl) (by kernel_rfl)
                case hob =>
                  apply Oblig.cons
                  case h =>
                    intro S w1 hwi hSi hd hcl
                    apply StepOk.intro
                    intro K hK
                    obtain ⟨a1, a2, a3, hbz⟩ := HCL.out _ (HKJ.out.trans (hwi.mono (T := fun k => S0 k ∨ N ≤ k) (fun _ h => h.elim)) (fun _ _ h => h))
                    have qm := (hwi.blk HMB.out (fun h => h)).k2
                    go_simp
                    apply hK
                    · rfl
                    · conv => (lhs; whnf)
                    · exact hwi
                  simp only [put_lit, put_none]
                  try dsimp only [List.set_cons_succ, List.set_cons_zero]
                  apply Oblig.cons
                  case h =>
                    intro S w1 hwi hSi hd hcl
                    apply StepOk.intro
                    intro K hK
                    obtain ⟨a1, a2, a3, hbz⟩ := HCL.out _ (HKJ.out.trans (hwi.mono (T := fun k => S0 k ∨ N ≤ k) (fun _ h => h.elim)) (fun _ _ h => h))
                    have qm := (hwi.blk HMB.out (fun h => h)).k2
                    go_simp
                    apply hK
                    · rfl
                    · conv => (lhs; whnf)
                    · exact hwi
                  simp only [put_lit, put_none]
                  try dsimp only [List.set_cons_succ, List.set_cons_zero]
                  apply Oblig.cons
                  case h =>
                    intro S w1 hwi hSi hd hcl
                    apply StepOk.intro
                    intro K hK
                    obtain ⟨a1, a2, a3, hbz⟩ := HCL.out _ (HKJ.out.trans (hwi.mono (T := fun k => S0 k ∨ N ≤ k) (fun _ h => h.elim)) (fun _ _ h => h))
                    have qm := (hwi.blk HMB.out (fun h => h)).k2
                    go_simp
                    apply hK
                    · rfl
                    · conv => (lhs; whnf)
                    · exact hwi
                  simp only [put_lit, put_none]
                  try dsimp only [List.set_cons_succ, List.set_cons_zero]
                  apply Oblig.cons
                  case h =>
                    intro S w1 hwi hSi hd hcl
                    apply StepOk.intro
                    intro K hK
                    obtain ⟨a1, a2, a3, hbz⟩ := HCL.out _ (HKJ.out.trans (hwi.mono (T := fun k => S0 k ∨ N ≤ k) (fun _ h => h.elim)) (fun _ _ h => h))
                    have qm := (hwi.blk HMB.out (fun h => h)).k2
                    go_simp
                    apply hK
                    · rfl
                    · conv => (lhs; whnf)
                    · exact hwi
                  simp only [put_lit, put_none]
                  try dsimp only [List.set_cons_succ, List.set_cons_zero]
                  apply Oblig.cons
                  case h =>
                    intro S w1 hwi hSi hd hcl
                    apply StepOk.intro
                    intro K hK
                    obtain ⟨a1, a2, a3, hbz⟩ := HCL.out _ (HKJ.out.trans (hwi.mono (T := fun k => S0 k ∨ N ≤ k) (fun _ h => h.elim)) (fun _ _ h => h))
                    have qm := (hwi.blk HMB.out (fun h => h)).k2
                    go_simp
                    apply hK
                    · rfl
                    · conv => (lhs; whnf)
                    · exact hwi
                  simp only [put_lit, put_none]
                  try dsimp only [List.set_cons_succ, List.set_cons_zero]
                  apply Oblig.cons
                  case h =>
                    intro S w1 hwi hSi hd hcl
                    apply StepOk.intro
                    intro K hK
                    obtain ⟨a1, a2, a3, hbz⟩ := HCL.out _ (HKJ.out.trans (hwi.mono (T := fun k => S0 k ∨ N ≤ k) (fun _ h => h.elim)) (fun _ _ h => h))
                    have qm := (hwi.blk HMB.out (fun h => h)).k2
                    go_simp
                    apply hK
                    · rfl
                    · conv => (lhs; whnf)
                    · exact hwi
                  simp only [put_lit, put_none]
                  try dsimp only [List.set_cons_succ, List.set_cons_zero]
                  apply Oblig.cons
                  case h =>
                    intro S w1 hwi hSi hd hcl
                    apply StepOk.intro
                    intro K hK
                    obtain ⟨a1, a2, a3, hbz⟩ := HCL.out _ (HKJ.out.trans (hwi.mono (T := fun k => S0 k ∨ N ≤ k) (fun _ h => h.elim)) (fun _ _ h => h))
                    have qm := (hwi.blk HMB.out (fun h => h)).k2
                    go_simp
                    apply hK
                    · rfl
                    · conv => (lhs; whnf)
                    · exact hwi
                  simp only [put_lit, put_none]
                  try dsimp only [List.set_cons_succ, List.set_cons_zero]
                  apply Oblig.cons
                  case h =>
                    intro S w1 hwi hSi hd hcl
                    apply StepOk.intro
                    intro K hK
                    obtain ⟨a1, a2, a3, hbz⟩ := HCL.out _ (HKJ.out.trans (hwi.mono (T := fun k => S0 k ∨ N ≤ k) (fun _ h => h.elim)) (fun _ _ h => h))
                    have qm := (hwi.blk HMB.out (fun h => h)).k2
                    go_simp
                    apply hK
                    · rfl
                    · conv => (lhs; whnf)
                    · exact hwi
                  simp only [put_lit, put_none]
                  try dsimp only [List.set_cons_succ, List.set_cons_zero]
                  apply Oblig.cons
                  case h =>
                    intro S w1 hwi hSi hd hcl
                    apply StepOk.intro
                    intro K hK
                    obtain ⟨a1, a2, a3, hbz⟩ := HCL.out _ (HKJ.out.trans (hwi.mono (T := fun k => S0 k ∨ N ≤ k) (fun _ h => h.elim)) (fun _ _ h => h))
                    have qm := (hwi.blk HMB.out (fun h => h)).k2
                    go_simp
                    apply hK
                    · rfl
                    · conv => (lhs; whnf)
                    · exact hwi
                  simp only [put_lit, put_none]
                  try dsimp only [List.set_cons_succ, List.set_cons_zero]
                  apply Oblig.cons
                  case h =>
                    intro S w1 hwi hSi hd hcl
                    apply StepOk.intro
                    intro K hK
                    obtain ⟨a1, a2, a3, hbz⟩ := HCL.out _ (HKJ.out.trans (hwi.mono (T := fun k => S0 k ∨ N ≤ k) (fun _ h => h.elim)) (fun _ _ h => h))
                    have qm := (hwi.blk HMB.out (fun h => h)).k2
                    go_simp
                    apply hK
                    · rfl
                    · conv => (lhs; whnf)
                    · exact hwi
                  simp only [put_lit, put_none]
                  try dsimp only [List.set_cons_succ, List.set_cons_zero]
                  apply Oblig.cons
                  case h =>
                    intro S w1 hwi hSi hd hcl
                    apply StepOk.intro
                    intro K hK
                    obtain ⟨a1, a2, a3, hbz⟩ := HCL.out _ (HKJ.out.trans (hwi.mono (T := fun k => S0 k ∨ N ≤ k) (fun _ h => h.elim)) (fun _ _ h => h))
                    have qm := (hwi.blk HMB.out (fun h => h)).k2
                    go_simp
                    apply hK
                    · rfl
                    · conv => (lhs; whnf)
                    · exact hwi
                  simp only [put_lit, put_none]
                  try dsimp only [List.set_cons_succ, List.set_cons_zero]
                  apply Oblig.cons
                  case h =>
                    intro S w1 hwi hSi hd hcl
                    apply StepOk.intro
                    intro K hK
                    obtain ⟨a1, a2, a3, hbz⟩ := HCL.out _ (HKJ.out.trans (hwi.mono (T := fun k => S0 k ∨ N ≤ k) (fun _ h => h.elim)) (fun _ _ h => h))
                    have qm := (hwi.blk HMB.out (fun h => h)).k2
                    go_simp
                    apply hK
                    · rfl
                    · conv => (lhs; whnf)
                    · exact hwi
                  simp only [put_lit, put_none]
                  try dsimp only [List.set_cons_succ, List.set_cons_zero]
                  apply Oblig.cons
                  case h =>
                    intro S w1 hwi hSi hd hcl
                    apply StepOk.intro
                    intro K hK
                    obtain ⟨a1, a2, a3, hbz⟩ := HCL.out _ (HKJ.out.trans (hwi.mono (T := fun k => S0 k ∨ N ≤ k) (fun _ h => h.elim)) (fun _ _ h => h))
                    have qm := (hwi.blk HMB.out (fun h => h)).k2
                    go_simp
                    apply hK
                    · rfl
                    · conv => (lhs; whnf)
                    · exact hwi
                  simp only [put_lit, put_none]
                  try dsimp only [List.set_cons_succ, List.set_cons_zero]
                  apply Oblig.cons
                  case h =>
                    intro S w1 hwi hSi hd hcl
                    apply StepOk.intro
                    intro K hK
                    obtain ⟨a1, a2, a3, hbz⟩ := HCL.out _ (HKJ.out.trans (hwi.mono (T := fun k => S0 k ∨ N ≤ k) (fun _ h => h.elim)) (fun _ _ h => h))
                    have qm := (hwi.blk HMB.out (fun h => h)).k2
                    go_simp
                    apply hK
                    · rfl
                    · conv => (lhs; whnf)
                    · exact hwi
                  simp only [put_lit, put_none]
                  try dsimp only [List.set_cons_succ, List.set_cons_zero]
                  apply Oblig.cons
                  case h =>
                    intro S w1 hwi hSi hd hcl
                    apply StepOk.intro
                    intro K hK
                    obtain ⟨a1, a2, a3, hbz⟩ := HCL.out _ (HKJ.out.trans (hwi.mono (T := fun k => S0 k ∨ N ≤ k) (fun _ h => h.elim)) (fun _ _ h => h))
                    have qm := (hwi.blk HMB.out (fun h => h)).k2
                    go_simp
                    apply hK
                    · rfl
                    · conv => (lhs; whnf)
                    · exact hwi
                  simp only [put_lit, put_none]
                  try dsimp only [List.set_cons_succ, List.set_cons_zero]
                  apply Oblig.cons
                  case h =>
                    intro S w1 hwi hSi hd hcl
                    apply StepOk.intro
                    intro K hK
                    obtain ⟨a1, a2, a3, hbz⟩ := HCL.out _ (HKJ.out.trans (hwi.mono (T := fun k => S0 k ∨ N ≤ k) (fun _ h => h.elim)) (fun _ _ h => h))
                    have qm := (hwi.blk HMB.out (fun h => h)).k2
                    go_simp
                    apply hK
                    · rfl
                    · conv => (lhs; whnf)
                    · exact hwi
                  simp only [put_lit, put_none]
                  try dsimp only [List.set_cons_succ, List.set_cons_zero]
                  apply Oblig.cons
                  case h =>
                    intro S w1 hwi hSi hd hcl
                    apply StepOk.intro
                    intro K hK
                    obtain ⟨a1, a2, a3, hbz⟩ := HCL.out _ (HKJ.out.trans (hwi.mono (T := fun k => S0 k ∨ N ≤ k) (fun _ h => h.elim)) (fun _ _ h => h))
                    have qm := (hwi.blk HMB.out (fun h => h)).k2
                    go_simp
                    apply hK
                    · rfl
                    · conv => (lhs; whnf)
                    · exact hwi
                  simp only [put_lit, put_none]
                  try dsimp only [List.set_cons_succ, List.set_cons_zero]
                  apply Oblig.cons
                  case h =>
                    intro S w1 hwi hSi hd hcl
                    apply StepOk.intro
                    intro K hK
                    obtain ⟨a1, a2, a3, hbz⟩ := HCL.out _ (HKJ.out.trans (hwi.mono (T := fun k => S0 k ∨ N ≤ k) (fun _ h => h.elim)) (fun _ _ h => h))
                    have qm := (hwi.blk HMB.out (fun h => h)).k2
                    go_simp
                    apply hK
                    · rfl
                    · conv => (lhs; whnf)
                    · exact hwi
                  simp only [put_lit, put_none]
                  try dsimp only [List.set_cons_succ, List.set_cons_zero]
                  apply Oblig.cons
                  case h =>
                    intro S w1 hwi hSi hd hcl
                    apply StepOk.intro
                    intro K hK
                    obtain ⟨a1, a2, a3, hbz⟩ := HCL.out _ (HKJ.out.trans (hwi.mono (T := fun k => S0 k ∨ N ≤ k) (fun _ h => h.elim)) (fun _ _ h => h))
                    have qm := (hwi.blk HMB.out (fun h => h)).k2
                    go_simp
                    apply hK
                    · rfl
                    · conv => (lhs; whnf)
                    · exact hwi
                  simp only [put_lit, put_none]
                  try dsimp only [List.set_cons_succ, List.set_cons_zero]
                  apply Oblig.cons
                  case h =>
                    intro S w1 hwi hSi hd hcl
                    apply StepOk.intro
                    intro K hK
                    obtain ⟨a1, a2, a3, hbz⟩ := HCL.out _ (HKJ.out.trans (hwi.mono (T := fun k => S0 k ∨ N ≤ k) (fun _ h => h.elim)) (fun _ _ h => h))
                    have qm := (hwi.blk HMB.out (fun h => h)).k2
                    go_simp
                    apply hK
                    · rfl
                    · conv => (lhs; whnf)
                    · exact hwi
                  simp only [put_lit, put_none]
                  try dsimp only [List.set_cons_succ, List.set_cons_zero]
                  apply Oblig.cons
                  case h =>
                    intro S w1 hwi hSi hd hcl
                    apply StepOk.intro
                    intro K hK
                    obtain ⟨a1, a2, a3, hbz⟩ := HCL.out _ (HKJ.out.trans (hwi.mono (T := fun k => S0 k ∨ N ≤ k) (fun _ h => h.elim)) (fun _ _ h => h))
                    have qm := (hwi.blk HMB.out (fun h => h)).k2
                    go_simp
                    apply hK
                    · rfl
                    · conv => (lhs; whnf)
                    · exact hwi
                  simp only [put_lit, put_none]
                  try dsimp only [List.set_cons_succ, List.set_cons_zero]
                  apply Oblig.cons
                  case h =>
                    intro S w1 hwi hSi hd hcl
                    apply StepOk.intro
                    intro K hK
                    obtain ⟨a1, a2, a3, hbz⟩ := HCL.out _ (HKJ.out.trans (hwi.mono (T := fun k => S0 k ∨ N ≤ k) (fun _ h => h.elim)) (fun _ _ h => h))
                    have qm := (hwi.blk HMB.out (fun h => h)).k2
                    go_simp
                    apply hK
                    · rfl
                    · conv => (lhs; whnf)
                    · exact hwi
                  simp only [put_lit, put_none]
                  try dsimp only [List.set_cons_succ, List.set_cons_zero]
                  apply Oblig.cons
                  case h =>
                    intro S w1 hwi hSi hd hcl
                    apply StepOk.intro
                    intro K hK
                    obtain ⟨a1, a2, a3, hbz⟩ := HCL.out _ (HKJ.out.trans (hwi.mono (T := fun k => S0 k ∨ N ≤ k) (fun _ h => h.elim)) (fun _ _ h => h))
                    have qm := (hwi.blk HMB.out (fun h => h)).k2
                    go_simp
                    apply hK
                    · rfl
                    · conv => (lhs; whnf)
                    · exact hwi
                  simp only [put_lit, put_none]
                  try dsimp only [List.set_cons_succ, List.set_cons_zero]
                  apply Oblig.cons
                  case h =>
                    intro S w1 hwi hSi hd hcl
                    apply StepOk.intro
                    intro K hK
                    obtain ⟨a1, a2, a3, hbz⟩ := HCL.out _ (HKJ.out.trans (hwi.mono (T := fun k => S0 k ∨ N ≤ k) (fun _ h => h.elim)) (fun _ _ h => h))
                    have qm := (hwi.blk HMB.out (fun h => h)).k2
                    go_simp
                    apply hK
                    · rfl
                    · conv => (lhs; whnf)
                    · exact hwi
                  simp only [put_lit, put_none]
                  try dsimp only [List.set_cons_succ, List.set_cons_zero]
                  apply Oblig.cons
                  case h =>
                    intro S w1 hwi hSi hd hcl
                    apply StepOk.intro
                    intro K hK
                    obtain ⟨a1, a2, a3, hbz⟩ := HCL.out _ (HKJ.out.trans (hwi.mono (T := fun k => S0 k ∨ N ≤ k) (fun _ h => h.elim)) (fun _ _ h => h))
                    have qm := (hwi.blk HMB.out (fun h => h)).k2
                    go_simp
                    apply hK
                    · rfl
                    · conv => (lhs; whnf)
                    · exact hwi
                  simp only [put_lit, put_none]
                  try dsimp only [List.set_cons_succ, List.set_cons_zero]
                  apply Oblig.cons
                  case h =>
                    intro S w1 hwi hSi hd hcl
                    apply StepOk.intro
                    intro K hK
                    obtain ⟨a1, a2, a3, hbz⟩ := HCL.out _ (HKJ.out.trans (hwi.mono (T := fun k => S0 k ∨ N ≤ k) (fun _ h => h.elim)) (fun _ _ h => h))
                    have qm := (hwi.blk HMB.out (fun h => h)).k2
                    go_simp
                    apply hK
                    · rfl
                    · conv => (lhs; whnf)
                    · exact hwi
                  simp only [put_lit, put_none]
                  try dsimp only [List.set_cons_succ, List.set_cons_zero]
                  apply Oblig.cons
                  case h =>
                    intro S w1 hwi hSi hd hcl
                    apply StepOk.intro
                    intro K hK
                    obtain ⟨a1, a2, a3, hbz⟩ := HCL.out _ (HKJ.out.trans (hwi.mono (T := fun k => S0 k ∨ N ≤ k) (fun _ h => h.elim)) (fun _ _ h => h))
                    have qm := (hwi.blk HMB.out (fun h => h)).k2
                    go_simp
                    apply hK
                    · rfl
                    · conv => (lhs; whnf)
                    · exact hwi
                  simp only [put_lit, put_none]
                  try dsimp only [List.set_cons_succ, List.set_cons_zero]
                  apply Oblig.cons
                  case h =>
                    intro S w1 hwi hSi hd hcl
                    apply StepOk.intro
                    intro K hK
                    obtain ⟨a1, a2, a3, hbz⟩ := HCL.out _ (HKJ.out.trans (hwi.mono (T := fun k => S0 k ∨ N ≤ k) (fun _ h => h.elim)) (fun _ _ h => h))
                    have qm := (hwi.blk HMB.out (fun h => h)).k2
                    go_simp
                    apply hK
                    · rfl
                    · conv => (lhs; whnf)
                    · exact hwi
                  simp only [put_lit, put_none]
                  try dsimp only [List.set_cons_succ, List.set_cons_zero]
                  exact Oblig.nil
                case h0 =>
                  exact (Keep.refl _ _).drew
                case hend =>
                  intro S wx hwi hall
                  have HKX := hid (HKJ.out.trans (hwi.mono (T := fun k => S0 k ∨ N ≤ k) (fun _ h => h.elim)) (fun _ _ h => h))
                  have HSX := hid (hkeep _ _ _ _ HSJ.out hwi)
                  obtain ⟨wy, rfl⟩ : ∃ wy : World, wy = wx := ⟨_, rfl⟩
                  clear hwi hall
                  go_wp2_with fail
                  apply wp_region_text (WI := fun S wx => Keep (fun k => S0 k ∨ N ≤ k) wo wx ∧ (S 11 = false → Sys n wx (pokeAll pk len n (l.take j) t')) ∧ (S 11 = true → Sys n wx (pk (pokeAll pk len n (l.take j) t') pw.toNat px))) (by kernel_rfl) (by kernel_rfl)
                  case hob =>
                    apply Oblig.cons
                    case h =>
                      intro S w1 hwi hSi hd hcl
                      apply StepOk.intro
                      intro K hK
                      obtain ⟨a1, a2, a3, hbz⟩ := HCL.out _ hwi.1
                      go_simp
                      apply hK
                      · rfl
                      · conv => (lhs; whnf)
                      · exact hwi
                    simp only [put_lit, put_none]
                    try dsimp only [List.set_cons_succ, List.set_cons_zero]
                    apply Oblig.cons
                    case h =>
                      intro S w1 hwi hSi hd hcl
                      apply StepOk.intro
                      intro K hK
                      obtain ⟨a1, a2, a3, hbz⟩ := HCL.out _ hwi.1
                      go_simp
                      apply hK
                      · rfl
                      · conv => (lhs; whnf)
                      · exact hwi
                    simp only [put_lit, put_none]
                    try dsimp only [List.set_cons_succ, List.set_cons_zero]
                    apply Oblig.cons
                    case h =>
                      intro S w1 hwi hSi hd hcl
                      apply StepOk.intro
                      intro K hK
                      obtain ⟨a1, a2, a3, hbz⟩ := HCL.out _ hwi.1
                      go_simp
                      apply hK
                      · rfl
                      · conv => (lhs; whnf)
                      · exact hwi
                    simp only [put_lit, put_none]
                    try dsimp only [List.set_cons_succ, List.set_cons_zero]
                    apply Oblig.cons
                    case h =>
                      intro S w1 hwi hSi hd hcl
                      apply StepOk.intro
                      intro K hK
                      obtain ⟨a1, a2, a3, hbz⟩ := HCL.out _ hwi.1
                      go_simp
                      apply hK
                      · rfl
                      · conv => (lhs; whnf)
                      · exact hwi
                    simp only [put_lit, put_none]
                    try dsimp only [List.set_cons_succ, List.set_cons_zero]
                    apply Oblig.cons
                    case h =>
                      intro S w1 hwi hSi hd hcl
                      apply StepOk.intro
                      intro K hK
                      obtain ⟨a1, a2, a3, hbz⟩ := HCL.out _ hwi.1
                      go_simp
                      apply hK
                      · rfl
                      · conv => (lhs; whnf)
                      · exact hwi
                    simp only [put_lit, put_none]
                    try dsimp only [List.set_cons_succ, List.set_cons_zero]
                    apply Oblig.cons
                    case h =>
                      intro S w1 hwi hSi hd hcl
                      apply StepOk.intro
                      intro K hK
                      obtain ⟨a1, a2, a3, hbz⟩ := HCL.out _ hwi.1
                      go_simp
                      apply hK
                      · rfl
                      · conv => (lhs; whnf)
                      · exact hwi
                    simp only [put_lit, put_none]
                    try dsimp only [List.set_cons_succ, List.set_cons_zero]
                    apply Oblig.cons
                    case h =>
                      intro S w1 hwi hSi hd hcl
                      apply StepOk.intro
                      intro K hK
                      obtain ⟨a1, a2, a3, hbz⟩ := HCL.out _ hwi.1
                      go_simp
                      apply hK
                      · rfl
                      · conv => (lhs; whnf)
                      · exact hwi
                    simp only [put_lit, put_none]
                    try dsimp only [List.set_cons_succ, List.set_cons_zero]
                    apply Oblig.cons
                    case h =>
                      intro S w1 hwi hSi hd hcl
                      apply StepOk.intro
                      intro K hK
                      obtain ⟨a1, a2, a3, hbz⟩ := HCL.out _ hwi.1
                      go_simp
                      apply hK
                      · rfl
                      · conv => (lhs; whnf)
                      · exact hwi
                    simp only [put_lit, put_none]
                    try dsimp only [List.set_cons_succ, List.set_cons_zero]
                    apply Oblig.cons
                    case h =>
                      intro S w1 hwi hSi hd hcl
                      apply StepOk.intro
                      intro K hK
                      obtain ⟨a1, a2, a3, hbz⟩ := HCL.out _ hwi.1
                      go_simp
                      apply hK
                      · rfl
                      · conv => (lhs; whnf)
                      · exact hwi
                    simp only [put_lit, put_none]
                    try dsimp only [List.set_cons_succ, List.set_cons_zero]
                    apply Oblig.cons
                    case h =>
                      intro S w1 hwi hSi hd hcl
                      apply StepOk.intro
                      intro K hK
                      obtain ⟨a1, a2, a3, hbz⟩ := HCL.out _ hwi.1
                      go_simp
                      apply hK
                      · rfl
                      · conv => (lhs; whnf)
                      · exact hwi
                    simp only [put_lit, put_none]
                    try dsimp only [List.set_cons_succ, List.set_cons_zero]
                    apply Oblig.cons
                    case h =>
                      intro S w1 hwi hSi hd hcl
                      apply StepOk.intro
                      intro K hK
                      obtain ⟨a1, a2, a3, hbz⟩ := HCL.out _ hwi.1
                      go_simp
                      apply hK
                      · rfl
                      · conv => (lhs; whnf)
                      · exact hwi
                    simp only [put_lit, put_none]
                    try dsimp only [List.set_cons_succ, List.set_cons_zero]
                    apply Oblig.cons
                    case h =>
                      intro S w1 hwi hSi hd hcl
                      apply StepOk.intro
                      intro K hK
                      obtain ⟨a1, a2, a3, hbz⟩ := HCL.out _ hwi.1
                      go_simp
                      refine (hpoke n _ _ pw px HIN.out (hwi.2.1 hSi) hB hC).mono ?_
                      rintro e w2 ⟨rfl, hs2, hk2⟩
                      apply hK
                      · rfl
                      · conv => (lhs; whnf)
                      · exact ⟨hwi.1.trans hk2 (fun _ _ h => h), fun h => by simp [upd] at h, fun _ => hs2⟩
                    simp only [put_lit, put_none]
                    try dsimp only [List.set_cons_succ, List.set_cons_zero]
                    exact Oblig.nil
                  case h0 =>
                    exact ⟨HKX.out.drew, fun _ => hkeep _ _ _ _ HSX.out (Keep.refl (fun _ => False) _).drew, fun h => by cases h⟩
                  case hend =>
                    intro S wx hwi hall
                    have HSZ := hid (hwi.2.2 (hall 11 (by decide)))
                    have HKZ := hid hwi.1
                    clear hwi hall
                    go_wp2_with fail
                    go_roundw
                    case rel => exact ⟨j + 1, by omega, by go_num, by rw [HN.out, if_pos ⟨HA.out, hB, hC⟩]; exact HSZ.out, HKZ.out⟩
                    case measure => simp [intOf]; omega
              · have g3 : decide (pw < (len : Int)) = false := by simpa using hC
                have HNN := hid (fun h : pa = n ∧ 0 ≤ pw ∧ pw < (len : Int) => hC h.2.2)
                go_wp2_with fail
                apply wp_region_text (WI := fun S wx => Keep0 wr wx) (by kernel_rfl) (by kernel_rfl)
                case hob =>
                  apply Oblig.cons
                  case h =>
                    intro S w1 hwi hSi hd hcl
                    apply StepOk.intro
                    intro K hK
                    obtain ⟨a1, a2, a3, hbz⟩ := HCL.out _ (HKJ.out.trans (hwi.mono (T := fun k => S0 k ∨ N ≤ k) (fun _ h => h.elim)) (fun _ _ h => h))
                    have qm := (hwi.blk HMB.out (fun h => h)).k2
                    go_simp
                    apply hK
                    · rfl
                    · conv => (lhs; whnf)
                    · exact hwi
                  simp only [put_lit, put_none]
                  try dsimp only [List.set_cons_succ, List.set_cons_zero]
                  apply Oblig.cons
                  case h =>
                    intro S w1 hwi hSi hd hcl
                    apply StepOk.intro
                    intro K hK
                    obtain ⟨a1, a2, a3, hbz⟩ := HCL.out _ (HKJ.out.trans (hwi.mono (T := fun k => S0 k ∨ N ≤ k) (fun _ h => h.elim)) (fun _ _ h => h))
                    have qm := (hwi.blk HMB.out (fun h => h)).k2
                    go_simp
                    apply hK
                    · rfl
                    · conv => (lhs; whnf)
                    · exact hwi
                  simp only [put_lit, put_none]
                  try dsimp only [List.set_cons_succ, List.set_cons_zero]
                  apply Oblig.cons
                  case h =>
                    intro S w1 hwi hSi hd hcl
                    apply StepOk.intro
                    intro K hK
                    obtain ⟨a1, a2, a3, hbz⟩ := HCL.out _ (HKJ.out.trans (hwi.mono (T := fun k => S0 k ∨ N ≤ k) (fun _ h => h.elim)) (fun _ _ h => h))
                    have qm := (hwi.blk HMB.out (fun h => h)).k2
                    go_simp
                    apply hK
                    · rfl
                    · conv => (lhs; whnf)
                    · exact hwi
                  simp only [put_lit, put_none]
                  try dsimp only [List.set_cons_succ, List.set_cons_zero]
                  apply Oblig.cons
                  case h =>
                    intro S w1 hwi hSi hd hcl
                    apply StepOk.intro
                    intro K hK
                    obtain ⟨a1, a2, a3, hbz⟩ := HCL.out _ (HKJ.out.trans (hwi.mono (T := fun k => S0 k ∨ N ≤ k) (fun _ h => h.elim)) (fun _ _ h => h))
                    have qm := (hwi.blk HMB.out (fun h => h)).k2
                    go_simp
                    apply hK
                    · rfl
                    · conv => (lhs; whnf)
                    · exact hwi
                  simp only [put_lit, put_none]
                  try dsimp only [List.set_cons_succ, List.set_cons_zero]
                  apply Oblig.cons
                  case h =>
                    intro S w1 hwi hSi hd hcl
                    apply StepOk.intro
                    intro K hK
                    obtain ⟨a1, a2, a3, hbz⟩ := HCL.out _ (HKJ.out.trans (hwi.mono (T := fun k => S0 k ∨ N ≤ k) (fun _ h => h.elim)) (fun _ _ h => h))
                    have qm := (hwi.blk HMB.out (fun h => h)).k2
                    go_simp
                    apply hK
                    · rfl
                    · conv => (lhs; whnf)
                    · exact hwi
                  simp only [put_lit, put_none]
                  try dsimp only [List.set_cons_succ, List.set_cons_zero]
                  apply Oblig.cons
                  case h =>
                    intro S w1 hwi hSi hd hcl
                    apply StepOk.intro
                    intro K hK
                    obtain ⟨a1, a2, a3, hbz⟩ := HCL.out _ (HKJ.out.trans (hwi.mono (T := fun k => S0 k ∨ N ≤ k) (fun _ h => h.elim)) (fun _ _ h => h))
                    have qm := (hwi.blk HMB.out (fun h => h)).k2
                    go_simp
                    apply hK
                    · rfl
                    · conv => (lhs; whnf)
                    · exact hwi
                  simp only [put_lit, put_none]
                  try dsimp only [List.set_cons_succ, List.set_cons_zero]
                  apply Oblig.cons
                  case h =>
                    intro S w1 hwi hSi hd hcl
                    apply StepOk.intro
                    intro K hK
                    obtain ⟨a1, a2, a3, hbz⟩ := HCL.out _ (HKJ.out.trans (hwi.mono (T := fun k => S0 k ∨ N ≤ k) (fun _ h => h.elim)) (fun _ _ h => h))
                    have qm := (hwi.blk HMB.out (fun h => h)).k2
                    go_simp
                    apply hK
                    · rfl
                    · conv => (lhs; whnf)
                    · exact hwi
                  simp only [put_lit, put_none]
                  try dsimp only [List.set_cons_succ, List.set_cons_zero]
                  apply Oblig.cons
                  case h =>
                    intro S w1 hwi hSi hd hcl
                    apply StepOk.intro
                    intro K hK
                    obtain ⟨a1, a2, a3, hbz⟩ := HCL.out _ (HKJ.out.trans (hwi.mono (T := fun k => S0 k ∨ N ≤ k) (fun _ h => h.elim)) (fun _ _ h => h))
                    have qm := (hwi.blk HMB.out (fun h => h)).k2
                    go_simp
                    apply hK
                    · rfl
                    · conv => (lhs; whnf)
                    · exact hwi
                  simp only [put_lit, put_none]
                  try dsimp only [List.set_cons_succ, List.set_cons_zero]
                  apply Oblig.cons
                  case h =>
                    intro S w1 hwi hSi hd hcl
                    apply StepOk.intro
                    intro K hK
                    obtain ⟨a1, a2, a3, hbz⟩ := HCL.out _ (HKJ.out.trans (hwi.mono (T := fun k => S0 k ∨ N ≤ k) (fun _ h => h.elim)) (fun _ _ h => h))
                    have qm := (hwi.blk HMB.out (fun h => h)).k2
                    go_simp
                    apply hK
                    · rfl
                    · conv => (lhs; whnf)
                    · exact hwi
                  simp only [put_lit, put_none]
                  try dsimp only [List.set_cons_succ, List.set_cons_zero]
                  apply Oblig.cons
                  case h =>
                    intro S w1 hwi hSi hd hcl
                    apply StepOk.intro
                    intro K hK
                    obtain ⟨a1, a2, a3, hbz⟩ := HCL.out _ (HKJ.out.trans (hwi.mono (T := fun k => S0 k ∨ N ≤ k) (fun _ h => h.elim)) (fun _ _ h => h))
                    have qm := (hwi.blk HMB.out (fun h => h)).k2
                    go_simp
                    apply hK
                    · rfl
                    · conv => (lhs; whnf)
                    · exact hwi
                  simp only [put_lit, put_none]
                  try dsimp only [List.set_cons_succ, List.set_cons_zero]
                  apply Oblig.cons
                  case h =>
                    intro S w1 hwi hSi hd hcl
                    apply StepOk.intro
                    intro K hK
                    obtain ⟨a1, a2, a3, hbz⟩ := HCL.out _ (HKJ.out.trans (hwi.mono (T := fun k => S0 k ∨ N ≤ k) (fun _ h => h.elim)) (fun _ _ h => h))
                    have qm := (hwi.blk HMB.out (fun h => h)).k2
                    go_simp
                    apply hK
                    · rfl
                    · conv => (lhs; whnf)
                    · exact hwi
                  simp only [put_lit, put_none]
                  try dsimp only [List.set_cons_succ, List.set_cons_zero]
                  apply Oblig.cons
                  case h =>
                    intro S w1 hwi hSi hd hcl
                    apply StepOk.intro
                    intro K hK
                    obtain ⟨a1, a2, a3, hbz⟩ := HCL.out _ (HKJ.out.trans (hwi.mono (T := fun k => S0 k ∨ N ≤ k) (fun _ h => h.elim)) (fun _ _ h => h))
                    have qm := (hwi.blk HMB.out (fun h => h)).k2
                    go_simp
                    apply hK
                    · rfl
                    · conv => (lhs; whnf)
                    · exact hwi
                  simp only [put_lit, put_none]
                  try dsimp only [List.set_cons_succ, List.set_cons_zero]
                  apply Oblig.cons
                  case h =>
                    intro S w1 hwi hSi hd hcl
                    apply StepOk.intro
                    intro K hK
                    obtain ⟨a1, a2, a3, hbz⟩ := HCL.out _ (HKJ.out.trans (hwi.mono (T := fun k => S0 k ∨ N ≤ k) (fun _ h => h.elim)) (fun _ _ h => h))
                    have qm := (hwi.blk HMB.out (fun h => h)).k2
                    go_simp
                    apply hK
                    · rfl
                    · conv => (lhs; whnf)
                    · exact hwi
                  simp only [put_lit, put_none]
                  try dsimp only [List.set_cons_succ, List.set_cons_zero]
                  apply Oblig.cons
                  case h =>
                    intro S w1 hwi hSi hd hcl
                    apply StepOk.intro
                    intro K hK
                    obtain ⟨a1, a2, a3, hbz⟩ := HCL.out _ (HKJ.out.trans (hwi.mono (T := fun k => S0 k ∨ N ≤ k) (fun _ h => h.elim)) (fun _ _ h => h))
                    have qm := (hwi.blk HMB.out (fun h => h)).k2
                    go_simp
                    apply hK
                    · rfl
                    · conv => (lhs; whnf)
                    · exact hwi
                  simp only [put_lit, put_none]
                  try dsimp only [List.set_cons_succ, List.set_cons_zero]
                  apply Oblig.cons
                  case h =>
                    intro S w1 hwi hSi hd hcl
                    apply StepOk.intro
                    intro K hK
                    obtain ⟨a1, a2, a3, hbz⟩ := HCL.out _ (HKJ.out.trans (hwi.mono (T := fun k => S0 k ∨ N ≤ k) (fun _ h => h.elim)) (fun _ _ h => h))
                    have qm := (hwi.blk HMB.out (fun h => h)).k2
                    go_simp
                    apply hK
                    · rfl
                    · conv => (lhs; whnf)
                    · exact hwi
                  simp only [put_lit, put_none]
                  try dsimp only [List.set_cons_succ, List.set_cons_zero]
                  apply Oblig.cons
                  case h =>
                    intro S w1 hwi hSi hd hcl
                    apply StepOk.intro
                    intro K hK
                    obtain ⟨a1, a2, a3, hbz⟩ := HCL.out _ (HKJ.out.trans (hwi.mono (T := fun k => S0 k ∨ N ≤ k) (fun _ h => h.elim)) (fun _ _ h => h))
                    have qm := (hwi.blk HMB.out (fun h => h)).k2
                    go_simp
                    apply hK
                    · rfl
                    · conv => (lhs; whnf)
                    · exact hwi
                  simp only [put_lit, put_none]
                  try dsimp only [List.set_cons_succ, List.set_cons_zero]
                  apply Oblig.cons
                  case h =>
                    intro S w1 hwi hSi hd hcl
                    apply StepOk.intro
                    intro K hK
                    obtain ⟨a1, a2, a3, hbz⟩ := HCL.out _ (HKJ.out.trans (hwi.mono (T := fun k => S0 k ∨ N ≤ k) (fun _ h => h.elim)) (fun _ _ h => h))
                    have qm := (hwi.blk HMB.out (fun h => h)).k2
                    go_simp
                    apply hK
                    · rfl
                    · conv => (lhs; whnf)
                    · exact hwi
                  simp only [put_lit, put_none]
                  try dsimp only [List.set_cons_succ, List.set_cons_zero]
                  apply Oblig.cons
                  case h =>
                    intro S w1 hwi hSi hd hcl
                    apply StepOk.intro
                    intro K hK
                    obtain ⟨a1, a2, a3, hbz⟩ := HCL.out _ (HKJ.out.trans (hwi.mono (T := fun k => S0 k ∨ N ≤ k) (fun _ h => h.elim)) (fun _ _ h => h))
                    have qm := (hwi.blk HMB.out (fun h => h)).k2
                    go_simp
                    apply hK
                    · rfl
                    · conv => (lhs; whnf)
                    · exact hwi
                  simp only [put_lit, put_none]
                  try dsimp only [List.set_cons_succ, List.set_cons_zero]
                  apply Oblig.cons
                  case h =>
                    intro S w1 hwi hSi hd hcl
                    apply StepOk.intro
                    intro K hK
                    obtain ⟨a1, a2, a3, hbz⟩ := HCL.out _ (HKJ.out.trans (hwi.mono (T := fun k => S0 k ∨ N ≤ k) (fun _ h => h.elim)) (fun _ _ h => h))
                    have qm := (hwi.blk HMB.out (fun h => h)).k2
                    go_simp
                    apply hK
                    · rfl
                    · conv => (lhs; whnf)
                    · exact hwi
                  simp only [put_lit, put_none]
                  try dsimp only [List.set_cons_succ, List.set_cons_zero]
                  apply Oblig.cons
                  case h =>
                    intro S w1 hwi hSi hd hcl
                    apply StepOk.intro
                    intro K hK
                    obtain ⟨a1, a2, a3, hbz⟩ := HCL.out _ (HKJ.out.trans (hwi.mono (T := fun k => S0 k ∨ N ≤ k) (fun _ h => h.elim)) (fun _ _ h => h))
                    have qm := (hwi.blk HMB.out (fun h => h)).k2
                    go_simp
                    apply hK
                    · rfl
                    · conv => (lhs; whnf)
                    · exact hwi
                  simp only [put_lit, put_none]
                  try dsimp only [List.set_cons_succ, List.set_cons_zero]
                  apply Oblig.cons
                  case h =>
                    intro S w1 hwi hSi hd hcl
                    apply StepOk.intro
                    intro K hK
                    obtain ⟨a1, a2, a3, hbz⟩ := HCL.out _ (HKJ.out.trans (hwi.mono (T := fun k => S0 k ∨ N ≤ k) (fun _ h => h.elim)) (fun _ _ h => h))
                    have qm := (hwi.blk HMB.out (fun h => h)).k2
                    go_simp
                    apply hK
                    · rfl
                    · conv => (lhs; whnf)
                    · exact hwi
                  simp only [put_lit, put_none]
                  try dsimp only [List.set_cons_succ, List.set_cons_zero]
                  apply Oblig.cons
                  case h =>
                    intro S w1 hwi hSi hd hcl
                    apply StepOk.intro
                    intro K hK
                    obtain ⟨a1, a2, a3, hbz⟩ := HCL.out _ (HKJ.out.trans (hwi.mono (T := fun k => S0 k ∨ N ≤ k) (fun _ h => h.elim)) (fun _ _ h => h))
                    have qm := (hwi.blk HMB.out (fun h => h)).k2
                    go_simp
                    apply hK
                    · rfl
                    · conv => (lhs; whnf)
                    · exact hwi
                  simp only [put_lit, put_none]
                  try dsimp only [List.set_cons_succ, List.set_cons_zero]
                  apply Oblig.cons
                  case h =>
                    intro S w1 hwi hSi hd hcl
                    apply StepOk.intro
                    intro K hK
                    obtain ⟨a1, a2, a3, hbz⟩ := HCL.out _ (HKJ.out.trans (hwi.mono (T := fun k => S0 k ∨ N ≤ k) (fun _ h => h.elim)) (fun _ _ h => h))
                    have qm := (hwi.blk HMB.out (fun h => h)).k2
                    go_simp
                    apply hK
                    · rfl
                    · conv => (lhs; whnf)
                    · exact hwi
                  simp only [put_lit, put_none]
                  try dsimp only [List.set_cons_succ, List.set_cons_zero]
                  apply Oblig.cons
                  case h =>
                    intro S w1 hwi hSi hd hcl
                    apply StepOk.intro
                    intro K hK
                    obtain ⟨a1, a2, a3, hbz⟩ := HCL.out _ (HKJ.out.trans (hwi.mono (T := fun k => S0 k ∨ N ≤ k) (fun _ h => h.elim)) (fun _ _ h => h))
                    have qm := (hwi.blk HMB.out (fun h => h)).k2
                    go_simp
                    apply hK
                    · rfl
                    · conv => (lhs; whnf)
                    · exact hwi
                  simp only [put_lit, put_none]
                  try dsimp only [List.set_cons_succ, List.set_cons_zero]
                  apply Oblig.cons
                  case h =>
                    intro S w1 hwi hSi hd hcl
                    apply StepOk.intro
                    intro K hK
                    obtain ⟨a1, a2, a3, hbz⟩ := HCL.out _ (HKJ.out.trans (hwi.mono (T := fun k => S0 k ∨ N ≤ k) (fun _ h => h.elim)) (fun _ _ h => h))
                    have qm := (hwi.blk HMB.out (fun h => h)).k2
                    go_simp
                    apply hK
                    · rfl
                    · conv => (lhs; whnf)
                    · exact hwi
                  simp only [put_lit, put_none]
                  try dsimp only [List.set_cons_succ, List.set_cons_zero]
                  apply Oblig.cons
                  case h =>
                    intro S w1 hwi hSi hd hcl
                    apply StepOk.intro
                    intro K hK
                    obtain ⟨a1, a2, a3, hbz⟩ := HCL.out _ (HKJ.out.trans (hwi.mono (T := fun k => S0 k ∨ N ≤ k) (fun _ h => h.elim)) (fun _ _ h => h))
                    have qm := (hwi.blk HMB.out (fun h => h)).k2
                    go_simp
                    apply hK
                    · rfl
                    · conv => (lhs; whnf)
                    · exact hwi
                  simp only [put_lit, put_none]
                  try dsimp only [List.set_cons_succ, List.set_cons_zero]
                  apply Oblig.cons
                  case h =>
                    intro S w1 hwi hSi hd hcl
                    apply StepOk.intro
                    intro K hK
                    obtain ⟨a1, a2, a3, hbz⟩ := HCL.out _ (HKJ.out.trans (hwi.mono (T := fun k => S0 k ∨ N ≤ k) (fun _ h => h.elim)) (fun _ _ h => h))
                    have qm := (hwi.blk HMB.out (fun h => h)).k2
                    go_simp
                    apply hK
                    · rfl
                    · conv => (lhs; whnf)
                    · exact hwi
                  simp only [put_lit, put_none]
                  try dsimp only [List.set_cons_succ, List.set_cons_zero]
                  apply Oblig.cons
                  case h =>
                    intro S w1 hwi hSi hd hcl
                    apply StepOk.intro
                    intro K hK
                    obtain ⟨a1, a2, a3, hbz⟩ := HCL.out _ (HKJ.out.trans (hwi.mono (T := fun k => S0 k ∨ N ≤ k) (fun _ h => h.elim)) (fun _ _ h => h))
                    have qm := (hwi.blk HMB.out (fun h => h)).k2
                    go_simp
                    apply hK
                    · rfl
                    · conv => (lhs; whnf)
                    · exact hwi
                  simp only [put_lit, put_none]
                  try dsimp only [List.set_cons_succ, List.set_cons_zero]
                  exact Oblig.nil
                case h0 =>
                  exact (Keep.refl _ _).drew
                case hend =>
                  intro S wx hwi hall
                  have HKX := hid (HKJ.out.trans (hwi.mono (T := fun k => S0 k ∨ N ≤ k) (fun _ h => h.elim)) (fun _ _ h => h))
                  have HSX := hid (hkeep _ _ _ _ HSJ.out hwi)
                  obtain ⟨wy, rfl⟩ : ∃ wy : World, wy = wx := ⟨_, rfl⟩
                  clear hwi hall
                  go_wp2_with fail
                  go_roundw
                  case rel => exact ⟨j + 1, by omega, by go_num, by rw [HN.out, if_neg HNN.out]; exact HSX.out, HKX.out⟩
                  case measure => simp [intOf]; omega
            · have g2 : decide (0 ≤ pw) = false := by simpa using hB
              have HNN := hid (fun h : pa = n ∧ 0 ≤ pw ∧ pw < (len : Int) => hB h.2.1)
              go_wp2_with fail
              apply wp_region_text (WI := fun S wx => Keep0 wr wx) (by kernel_rfl) (by kernel_rfl)
              case hob =>
                apply Oblig.cons
                case h =>
                  intro S w1 hwi hSi hd hcl
                  apply StepOk.intro
                  intro K hK
                  obtain ⟨a1, a2, a3, hbz⟩ := HCL.out _ (HKJ.out.trans (hwi.mono (T := fun k => S0 k ∨ N ≤ k) (fun _ h => h.elim)) (fun _ _ h => h))
                  have qm := (hwi.blk HMB.out (fun h => h)).k2
                  go_simp
                  apply hK
                  · rfl
                  · conv => (lhs; whnf)
                  · exact hwi
                simp only [put_lit, put_none]
                try dsimp only [List.set_cons_succ, List.set_cons_zero]
                apply Oblig.cons
                case h =>
                  intro S w1 hwi hSi hd hcl
                  apply StepOk.intro
                  intro K hK
                  obtain ⟨a1, a2, a3, hbz⟩ := HCL.out _ (HKJ.out.trans (hwi.mono (T := fun k => S0 k ∨ N ≤ k) (fun _ h => h.elim)) (fun _ _ h => h))
                  have qm := (hwi.blk HMB.out (fun h => h)).k2
                  go_simp
                  apply hK
                  · rfl
                  · conv => (lhs; whnf)
                  · exact hwi
                simp only [put_lit, put_none]
                try dsimp only [List.set_cons_succ, List.set_cons_zero]
                apply Oblig.cons
                case h =>
                  intro S w1 hwi hSi hd hcl
                  apply StepOk.intro
                  intro K hK
                  obtain ⟨a1, a2, a3, hbz⟩ := HCL.out _ (HKJ.out.trans (hwi.mono (T := fun k => S0 k ∨ N ≤ k) (fun _ h => h.elim)) (fun _ _ h => h))
                  have qm := (hwi.blk HMB.out (fun h => h)).k2
                  go_simp
                  apply hK
                  · rfl
                  · conv => (lhs; whnf)
                  · exact hwi
                simp only [put_lit, put_none]
                try dsimp only [List.set_cons_succ, List.set_cons_zero]
                apply Oblig.cons
                case h =>
                  intro S w1 hwi hSi hd hcl
                  apply StepOk.intro
                  intro K hK
                  obtain ⟨a1, a2, a3, hbz⟩ := HCL.out _ (HKJ.out.trans (hwi.mono (T := fun k => S0 k ∨ N ≤ k) (fun _ h => h.elim)) (fun _ _ h => h))
                  have qm := (hwi.blk HMB.out (fun h => h)).k2
                  go_simp
                  apply hK
                  · rfl
                  · conv => (lhs; whnf)
                  · exact hwi
                simp only [put_lit, put_none]
                try dsimp only [List.set_cons_succ, List.set_cons_zero]
                apply Oblig.cons
                case h =>
                  intro S w1 hwi hSi hd hcl
                  apply StepOk.intro
                  intro K hK
                  obtain ⟨a1, a2, a3, hbz⟩ := HCL.out _ (HKJ.out.trans (hwi.mono (T := fun k => S0 k ∨ N ≤ k) (fun _ h => h.elim)) (fun _ _ h => h))
                  have qm := (hwi.blk HMB.out (fun h => h)).k2
                  go_simp
                  apply hK
                  · rfl
                  · conv => (lhs; whnf)
                  · exact hwi
                simp only [put_lit, put_none]
                try dsimp only [List.set_cons_succ, List.set_cons_zero]
                apply Oblig.cons
                case h =>
                  intro S w1 hwi hSi hd hcl
                  apply StepOk.intro
                  intro K hK
                  obtain ⟨a1, a2, a3, hbz⟩ := HCL.out _ (HKJ.out.trans (hwi.mono (T := fun k => S0 k ∨ N ≤ k) (fun _ h => h.elim)) (fun _ _ h => h))
                  have qm := (hwi.blk HMB.out (fun h => h)).k2
                  go_simp
                  apply hK
                  · rfl
                  · conv => (lhs; whnf)
                  · exact hwi
                simp only [put_lit, put_none]
                try dsimp only [List.set_cons_succ, List.set_cons_zero]
                apply Oblig.cons
                case h =>
                  intro S w1 hwi hSi hd hcl
                  apply StepOk.intro
                  intro K hK
                  obtain ⟨a1, a2, a3, hbz⟩ := HCL.out _ (HKJ.out.trans (hwi.mono (T := fun k => S0 k ∨ N ≤ k) (fun _ h => h.elim)) (fun _ _ h => h))
                  have qm := (hwi.blk HMB.out (fun h => h)).k2
                  go_simp
                  apply hK
                  · rfl
                  · conv => (lhs; whnf)
                  · exact hwi
                simp only [put_lit, put_none]
                try dsimp only [List.set_cons_succ, List.set_cons_zero]
                apply Oblig.cons
                case h =>
                  intro S w1 hwi hSi hd hcl
                  apply StepOk.intro
                  intro K hK
                  obtain ⟨a1, a2, a3, hbz⟩ := HCL.out _ (HKJ.out.trans (hwi.mono (T := fun k => S0 k ∨ N ≤ k) (fun _ h => h.elim)) (fun _ _ h => h))
                  have qm := (hwi.blk HMB.out (fun h => h)).k2
                  go_simp
                  apply hK
                  · rfl
                  · conv => (lhs; whnf)
                  · exact hwi
                simp only [put_lit, put_none]
                try dsimp only [List.set_cons_succ, List.set_cons_zero]
                apply Oblig.cons
                case h =>
                  intro S w1 hwi hSi hd hcl
                  apply StepOk.intro
                  intro K hK
                  obtain ⟨a1, a2, a3, hbz⟩ := HCL.out _ (HKJ.out.trans (hwi.mono (T := fun k => S0 k ∨ N ≤ k) (fun _ h => h.elim)) (fun _ _ h => h))
                  have qm := (hwi.blk HMB.out (fun h => h)).k2
                  go_simp
                  apply hK
                  · rfl
                  · conv => (lhs; whnf)
                  · exact hwi
                simp only [put_lit, put_none]
                try dsimp only [List.set_cons_succ, List.set_cons_zero]
                apply Oblig.cons
                case h =>
                  intro S w1 hwi hSi hd hcl
                  apply StepOk.intro
                  intro K hK
                  obtain ⟨a1, a2, a3, hbz⟩ := HCL.out _ (HKJ.out.trans (hwi.mono (T := fun k => S0 k ∨ N ≤ k) (fun _ h => h.elim)) (fun _ _ h => h))
                  have qm := (hwi.blk HMB.out (fun h => h)).k2
                  go_simp
                  apply hK
                  · rfl
                  · conv => (lhs; whnf)
                  · exact hwi
                simp only [put_lit, put_none]
                try dsimp only [List.set_cons_succ, List.set_cons_zero]
                apply Oblig.cons
                case h =>
                  intro S w1 hwi hSi hd hcl
                  apply StepOk.intro
                  intro K hK
                  obtain ⟨a1, a2, a3, hbz⟩ := HCL.out _ (HKJ.out.trans (hwi.mono (T := fun k => S0 k ∨ N ≤ k) (fun _ h => h.elim)) (fun _ _ h => h))
                  have qm := (hwi.blk HMB.out (fun h => h)).k2
                  go_simp
                  apply hK
                  · rfl
                  · conv => (lhs; whnf)
                  · exact hwi
                simp only [put_lit, put_none]
                try dsimp only [List.set_cons_succ, List.set_cons_zero]
                apply Oblig.cons
                case h =>
                  intro S w1 hwi hSi hd hcl
                  apply StepOk.intro
                  intro K hK
                  obtain ⟨a1, a2, a3, hbz⟩ := HCL.out _ (HKJ.out.trans (hwi.mono (T := fun k => S0 k ∨ N ≤ k) (fun _ h => h.elim)) (fun _ _ h => h))
                  have qm := (hwi.blk HMB.out (fun h => h)).k2
                  go_simp
                  apply hK
                  · rfl
                  · conv => (lhs; whnf)
                  · exact hwi
                simp only [put_lit, put_none]
                try dsimp only [List.set_cons_succ, List.set_cons_zero]
                apply Oblig.cons
                case h =>
                  intro S w1 hwi hSi hd hcl
                  apply StepOk.intro
                  intro K hK
                  obtain ⟨a1, a2, a3, hbz⟩ := HCL.out _ (HKJ.out.trans (hwi.mono (T := fun k => S0 k ∨ N ≤ k) (fun _ h => h.elim)) (fun _ _ h => h))
                  have qm := (hwi.blk HMB.out (fun h => h)).k2
                  go_simp
                  apply hK
                  · rfl
                  · conv => (lhs; whnf)
                  · exact hwi
                simp only [put_lit, put_none]
                try dsimp only [List.set_cons_succ, List.set_cons_zero]
                apply Oblig.cons
                case h =>
                  intro S w1 hwi hSi hd hcl
                  apply StepOk.intro
                  intro K hK
                  obtain ⟨a1, a2, a3, hbz⟩ := HCL.out _ (HKJ.out.trans (hwi.mono (T := fun k => S0 k ∨ N ≤ k) (fun _ h => h.elim)) (fun _ _ h => h))
                  have qm := (hwi.blk HMB.out (fun h => h)).k2
                  go_simp
                  apply hK
                  · rfl
                  · conv => (lhs; whnf)
                  · exact hwi
                simp only [put_lit, put_none]
                try dsimp only [List.set_cons_succ, List.set_cons_zero]
                apply Oblig.cons
                case h =>
                  intro S w1 hwi hSi hd hcl
                  apply StepOk.intro
                  intro K hK
                  obtain ⟨a1, a2, a3, hbz⟩ := HCL.out _ (HKJ.out.trans (hwi.mono (T := fun k => S0 k ∨ N ≤ k) (fun _ h => h.elim)) (fun _ _ h => h))
                  have qm := (hwi.blk HMB.out (fun h => h)).k2
                  go_simp
                  apply hK
                  · rfl
                  · conv => (lhs; whnf)
                  · exact hwi
                simp only [put_lit, put_none]
                try dsimp only [List.set_cons_succ, List.set_cons_zero]
                apply Oblig.cons
                case h =>
                  intro S w1 hwi hSi hd hcl
                  apply StepOk.intro
                  intro K hK
                  obtain ⟨a1, a2, a3, hbz⟩ := HCL.out _ (HKJ.out.trans (hwi.mono (T := fun k => S0 k ∨ N ≤ k) (fun _ h => h.elim)) (fun _ _ h => h))
                  have qm := (hwi.blk HMB.out (fun h => h)).k2
                  go_simp
                  apply hK
                  · rfl
                  · conv => (lhs; whnf)
                  · exact hwi
                simp only [put_lit, put_none]
                try dsimp only [List.set_cons_succ, List.set_cons_zero]
                apply Oblig.cons
                case h =>
                  intro S w1 hwi hSi hd hcl
                  apply StepOk.intro
                  intro K hK
                  obtain ⟨a1, a2, a3, hbz⟩ := HCL.out _ (HKJ.out.trans (hwi.mono (T := fun k => S0 k ∨ N ≤ k) (fun _ h => h.elim)) (fun _ _ h => h))
                  have qm := (hwi.blk HMB.out (fun h => h)).k2
                  go_simp
                  apply hK
                  · rfl
                  · conv => (lhs; whnf)
                  · exact hwi
                simp only [put_lit, put_none]
                try dsimp only [List.set_cons_succ, List.set_cons_zero]
                apply Oblig.cons
                case h =>
                  intro S w1 hwi hSi hd hcl
                  apply StepOk.intro
                  intro K hK
                  obtain ⟨a1, a2, a3, hbz⟩ := HCL.out _ (HKJ.out.trans (hwi.mono (T := fun k => S0 k ∨ N ≤ k) (fun _ h => h.elim)) (fun _ _ h => h))
                  have qm := (hwi.blk HMB.out (fun h => h)).k2
                  go_simp
                  apply hK
                  · rfl
                  · conv => (lhs; whnf)
                  · exact hwi
                simp only [put_lit, put_none]
                try dsimp only [List.set_cons_succ, List.set_cons_zero]
                apply Oblig.cons
                case h =>
                  intro S w1 hwi hSi hd hcl
                  apply StepOk.intro
                  intro K hK
                  obtain ⟨a1, a2, a3, hbz⟩ := HCL.out _ (HKJ.out.trans (hwi.mono (T := fun k => S0 k ∨ N ≤ k) (fun _ h => h.elim)) (fun _ _ h => h))
                  have qm := (hwi.blk HMB.out (fun h => h)).k2
                  go_simp
                  apply hK
                  · rfl
                  · conv => (lhs; whnf)
                  · exact hwi
                simp only [put_lit, put_none]
                try dsimp only [List.set_cons_succ, List.set_cons_zero]
                apply Oblig.cons
                case h =>
                  intro S w1 hwi hSi hd hcl
                  apply StepOk.intro
                  intro K hK
                  obtain ⟨a1, a2, a3, hbz⟩ := HCL.out _ (HKJ.out.trans (hwi.mono (T := fun k => S0 k ∨ N ≤ k) (fun _ h => h.elim)) (fun _ _ h => h))
                  have qm := (hwi.blk HMB.out (fun h => h)).k2
                  go_simp
                  apply hK
                  · rfl
                  · conv => (lhs; whnf)
                  · exact hwi
                simp only [put_lit, put_none]
                try dsimp only [List.set_cons_succ, List.set_cons_zero]
                apply Oblig.cons
                case h =>
                  intro S w1 hwi hSi hd hcl
                  apply StepOk.intro
                  intro K hK
                  obtain ⟨a1, a2, a3, hbz⟩ := HCL.out _ (HKJ.out.trans (hwi.mono (T := fun k => S0 k ∨ N ≤ k) (fun _ h => h.elim)) (fun _ _ h => h))
                  have qm := (hwi.blk HMB.out (fun h => h)).k2
                  go_simp
                  apply hK
                  · rfl
                  · conv => (lhs; whnf)
                  · exact hwi
                simp only [put_lit, put_none]
                try dsimp only [List.set_cons_succ, List.set_cons_zero]
                apply Oblig.cons
                case h =>
                  intro S w1 hwi hSi hd hcl
                  apply StepOk.intro
                  intro K hK
                  obtain ⟨a1, a2, a3, hbz⟩ := HCL.out _ (HKJ.out.trans (hwi.mono (T := fun k => S0 k ∨ N ≤ k) (fun _ h => h.elim)) (fun _ _ h => h))
                  have qm := (hwi.blk HMB.out (fun h => h)).k2
                  go_simp
                  apply hK
                  · rfl
                  · conv => (lhs; whnf)
                  · exact hwi
                simp only [put_lit, put_none]
                try dsimp only [List.set_cons_succ, List.set_cons_zero]
                apply Oblig.cons
                case h =>
                  intro S w1 hwi hSi hd hcl
                  apply StepOk.intro
                  intro K hK
                  obtain ⟨a1, a2, a3, hbz⟩ := HCL.out _ (HKJ.out.trans (hwi.mono (T := fun k => S0 k ∨ N ≤ k) (fun _ h => h.elim)) (fun _ _ h => h))
                  have qm := (hwi.blk HMB.out (fun h => h)).k2
                  go_simp
                  apply hK
                  · rfl
                  · conv => (lhs; whnf)
                  · exact hwi
                simp only [put_lit, put_none]
                try dsimp only [List.set_cons_succ, List.set_cons_zero]
                apply Oblig.cons
                case h =>
                  intro S w1 hwi hSi hd hcl
                  apply StepOk.intro
                  intro K hK
                  obtain ⟨a1, a2, a3, hbz⟩ := HCL.out _ (HKJ.out.trans (hwi.mono (T := fun k => S0 k ∨ N ≤ k) (fun _ h => h.elim)) (fun _ _ h => h))
                  have qm := (hwi.blk HMB.out (fun h => h)).k2
                  go_simp
                  apply hK
                  · rfl
                  · conv => (lhs; whnf)
                  · exact hwi
                simp only [put_lit, put_none]
                try dsimp only [List.set_cons_succ, List.set_cons_zero]
                apply Oblig.cons
                case h =>
                  intro S w1 hwi hSi hd hcl
                  apply StepOk.intro
                  intro K hK
                  obtain ⟨a1, a2, a3, hbz⟩ := HCL.out _ (HKJ.out.trans (hwi.mono (T := fun k => S0 k ∨ N ≤ k) (fun _ h => h.elim)) (fun _ _ h => h))
                  have qm := (hwi.blk HMB.out (fun h => h)).k2
                  go_simp
                  apply hK
                  · rfl
                  · conv => (lhs; whnf)
                  · exact hwi
                simp only [put_lit, put_none]
                try dsimp only [List.set_cons_succ, List.set_cons_zero]
                apply Oblig.cons
                case h =>
                  intro S w1 hwi hSi hd hcl
                  apply StepOk.intro
                  intro K hK
                  obtain ⟨a1, a2, a3, hbz⟩ := HCL.out _ (HKJ.out.trans (hwi.mono (T := fun k => S0 k ∨ N ≤ k) (fun _ h => h.elim)) (fun _ _ h => h))
                  have qm := (hwi.blk HMB.out (fun h => h)).k2
                  go_simp
                  apply hK
                  · rfl
                  · conv => (lhs; whnf)
                  · exact hwi
                simp only [put_lit, put_none]
                try dsimp only [List.set_cons_succ, List.set_cons_zero]
                apply Oblig.cons
                case h =>
                  intro S w1 hwi hSi hd hcl
                  apply StepOk.intro
                  intro K hK
                  obtain ⟨a1, a2, a3, hbz⟩ := HCL.out _ (HKJ.out.trans (hwi.mono (T := fun k => S0 k ∨ N ≤ k) (fun _ h => h.elim)) (fun _ _ h => h))
                  have qm := (hwi.blk HMB.out (fun h => h)).k2
                  go_simp
                  apply hK
                  · rfl
                  · conv => (lhs; whnf)
                  · exact hwi
                simp only [put_lit, put_none]
                try dsimp only [List.set_cons_succ, List.set_cons_zero]
                apply Oblig.cons
                case h =>
                  intro S w1 hwi hSi hd hcl
                  apply StepOk.intro
                  intro K hK
                  obtain ⟨a1, a2, a3, hbz⟩ := HCL.out _ (HKJ.out.trans (hwi.mono (T := fun k => S0 k ∨ N ≤ k) (fun _ h => h.elim)) (fun _ _ h => h))
                  have qm := (hwi.blk HMB.out (fun h => h)).k2
                  go_simp
                  apply hK
                  · rfl
                  · conv => (lhs; whnf)
                  · exact hwi
                simp only [put_lit, put_none]
                try dsimp only [List.set_cons_succ, List.set_cons_zero]
                exact Oblig.nil
              case h0 =>
                exact (Keep.refl _ _).drew
              case hend =>
                intro S wx hwi hall
                have HKX := hid (HKJ.out.trans (hwi.mono (T := fun k => S0 k ∨ N ≤ k) (fun _ h => h.elim)) (fun _ _ h => h))
                have HSX := hid (hkeep _ _ _ _ HSJ.out hwi)
                obtain ⟨wy, rfl⟩ : ∃ wy : World, wy = wx := ⟨_, rfl⟩
                clear hwi hall
                go_wp2_with fail
                go_roundw
                case rel => exact ⟨j + 1, by omega, by go_num, by rw [HN.out, if_neg HNN.out]; exact HSX.out, HKX.out⟩
                case measure => simp [intOf]; omega
          · have g1 : (pa == (n : Int)) = false := by simpa using hA
            have HNN := hid (fun h : pa = n ∧ 0 ≤ pw ∧ pw < (len : Int) => hA h.1)
            go_wp2_with fail
            apply wp_region_text (WI := fun S wx => Keep0 wr wx) (by kernel_rfl) (by kernel_rfl)
            case hob =>
              apply Oblig.cons
              case h =>
                intro S w1 hwi hSi hd hcl
                apply StepOk.intro
                intro K hK
                obtain ⟨a1, a2, a3, hbz⟩ := HCL.out _ (HKJ.out.trans (hwi.mono (T := fun k => S0 k ∨ N ≤ k) (fun _ h => h.elim)) (fun _ _ h => h))
                have qm := (hwi.blk HMB.out (fun h => h)).k2
                go_simp
                apply hK
                · rfl
                · conv => (lhs; whnf)
                · exact hwi
              simp only [put_lit, put_none]
              try dsimp only [List.set_cons_succ, List.set_cons_zero]
              apply Oblig.cons
              case h =>
                intro S w1 hwi hSi hd hcl
                apply StepOk.intro
                intro K hK
                obtain ⟨a1, a2, a3, hbz⟩ := HCL.out _ (HKJ.out.trans (hwi.mono (T := fun k => S0 k ∨ N ≤ k) (fun _ h => h.elim)) (fun _ _ h => h))
                have qm := (hwi.blk HMB.out (fun h => h)).k2
                go_simp
                apply hK
                · rfl
                · conv => (lhs; whnf)
                · exact hwi
              simp only [put_lit, put_none]
              try dsimp only [List.set_cons_succ, List.set_cons_zero]
              apply Oblig.cons
              case h =>
                intro S w1 hwi hSi hd hcl
                apply StepOk.intro
                intro K hK
                obtain ⟨a1, a2, a3, hbz⟩ := HCL.out _ (HKJ.out.trans (hwi.mono (T := fun k => S0 k ∨ N ≤ k) (fun _ h => h.elim)) (fun _ _ h => h))
                have qm := (hwi.blk HMB.out (fun h => h)).k2
                go_simp
                apply hK
                · rfl
                · conv => (lhs; whnf)
                · exact hwi
              simp only [put_lit, put_none]
              try dsimp only [List.set_cons_succ, List.set_cons_zero]
              apply Oblig.cons
              case h =>
                intro S w1 hwi hSi hd hcl
                apply StepOk.intro
                intro K hK
                obtain ⟨a1, a2, a3, hbz⟩ := HCL.out _ (HKJ.out.trans (hwi.mono (T := fun k => S0 k ∨ N ≤ k) (fun _ h => h.elim)) (fun _ _ h => h))
                have qm := (hwi.blk HMB.out (fun h => h)).k2
                go_simp
                apply hK
                · rfl
                · conv => (lhs; whnf)
                · exact hwi
              simp only [put_lit, put_none]
              try dsimp only [List.set_cons_succ, List.set_cons_zero]
              apply Oblig.cons
              case h =>
                intro S w1 hwi hSi hd hcl
                apply StepOk.intro
                intro K hK
                obtain ⟨a1, a2, a3, hbz⟩ := HCL.out _ (HKJ.out.trans (hwi.mono (T := fun k => S0 k ∨ N ≤ k) (fun _ h => h.elim)) (fun _ _ h => h))
                have qm := (hwi.blk HMB.out (fun h => h)).k2
                go_simp
                apply hK
                · rfl
                · conv => (lhs; whnf)
                · exact hwi
              simp only [put_lit, put_none]
              try dsimp only [List.set_cons_succ, List.set_cons_zero]
              apply Oblig.cons
              case h =>
                intro S w1 hwi hSi hd hcl
                apply StepOk.intro
                intro K hK
                obtain ⟨a1, a2, a3, hbz⟩ := HCL.out _ (HKJ.out.trans (hwi.mono (T := fun k => S0 k ∨ N ≤ k) (fun _ h => h.elim)) (fun _ _ h => h))
                have qm := (hwi.blk HMB.out (fun h => h)).k2
                go_simp
                apply hK
                · rfl
                · conv => (lhs; whnf)
                · exact hwi
              simp only [put_lit, put_none]
              try dsimp only [List.set_cons_succ, List.set_cons_zero]
              apply Oblig.cons
              case h =>
                intro S w1 hwi hSi hd hcl
                apply StepOk.intro
                intro K hK
                obtain ⟨a1, a2, a3, hbz⟩ := HCL.out _ (HKJ.out.trans (hwi.mono (T := fun k => S0 k ∨ N ≤ k) (fun _ h => h.elim)) (fun _ _ h => h))
                have qm := (hwi.blk HMB.out (fun h => h)).k2
                go_simp
                apply hK
                · rfl
                · conv => (lhs; whnf)
                · exact hwi
              simp only [put_lit, put_none]
              try dsimp only [List.set_cons_succ, List.set_cons_zero]
              apply Oblig.cons
              case h =>
                intro S w1 hwi hSi hd hcl
                apply StepOk.intro
                intro K hK
                obtain ⟨a1, a2, a3, hbz⟩ := HCL.out _ (HKJ.out.trans (hwi.mono (T := fun k => S0 k ∨ N ≤ k) (fun _ h => h.elim)) (fun _ _ h => h))
                have qm := (hwi.blk HMB.out (fun h => h)).k2
                go_simp
                apply hK
                · rfl
                · conv => (lhs; whnf)
                · exact hwi
              simp only [put_lit, put_none]
              try dsimp only [List.set_cons_succ, List.set_cons_zero]
              apply Oblig.cons
              case h =>
                intro S w1 hwi hSi hd hcl
                apply StepOk.intro
                intro K hK
                obtain ⟨a1, a2, a3, hbz⟩ := HCL.out _ (HKJ.out.trans (hwi.mono (T := fun k => S0 k ∨ N ≤ k) (fun _ h => h.elim)) (fun _ _ h => h))
                have qm := (hwi.blk HMB.out (fun h => h)).k2
                go_simp
                apply hK
                · rfl
                · conv => (lhs; whnf)
                · exact hwi
              simp only [put_lit, put_none]
              try dsimp only [List.set_cons_succ, List.set_cons_zero]
              apply Oblig.cons
              case h =>
                intro S w1 hwi hSi hd hcl
                apply StepOk.intro
                intro K hK
                obtain ⟨a1, a2, a3, hbz⟩ := HCL.out _ (HKJ.out.trans (hwi.mono (T := fun k => S0 k ∨ N ≤ k) (fun _ h => h.elim)) (fun _ _ h => h))
                have qm := (hwi.blk HMB.out (fun h => h)).k2
                go_simp
                apply hK
                · rfl
                · conv => (lhs; whnf)
                · exact hwi
              simp only [put_lit, put_none]
              try dsimp only [List.set_cons_succ, List.set_cons_zero]
              apply Oblig.cons
              case h =>
                intro S w1 hwi hSi hd hcl
                apply StepOk.intro
                intro K hK
                obtain ⟨a1, a2, a3, hbz⟩ := HCL.out _ (HKJ.out.trans (hwi.mono (T := fun k => S0 k ∨ N ≤ k) (fun _ h => h.elim)) (fun _ _ h => h))
                have qm := (hwi.blk HMB.out (fun h => h)).k2
                go_simp
                apply hK
                · rfl
                · conv => (lhs; whnf)
                · exact hwi
              simp only [put_lit, put_none]
              try dsimp only [List.set_cons_succ, List.set_cons_zero]
              apply Oblig.cons
              case h =>
                intro S w1 hwi hSi hd hcl
                apply StepOk.intro
                intro K hK
                obtain ⟨a1, a2, a3, hbz⟩ := HCL.out _ (HKJ.out.trans (hwi.mono (T := fun k => S0 k ∨ N ≤ k) (fun _ h => h.elim)) (fun _ _ h => h))
                have qm := (hwi.blk HMB.out (fun h => h)).k2
                go_simp
                apply hK
                · rfl
                · conv => (lhs; whnf)
                · exact hwi
              simp only [put_lit, put_none]
              try dsimp only [List.set_cons_succ, List.set_cons_zero]
              apply Oblig.cons
              case h =>
                intro S w1 hwi hSi hd hcl
                apply StepOk.intro
                intro K hK
                obtain ⟨a1, a2, a3, hbz⟩ := HCL.out _ (HKJ.out.trans (hwi.mono (T := fun k => S0 k ∨ N ≤ k) (fun _ h => h.elim)) (fun _ _ h => h))
                have qm := (hwi.blk HMB.out (fun h => h)).k2
                go_simp
                apply hK
                · rfl
                · conv => (lhs; whnf)
                · exact hwi
              simp only [put_lit, put_none]
              try dsimp only [List.set_cons_succ, List.set_cons_zero]
              apply Oblig.cons
              case h =>
                intro S w1 hwi hSi hd hcl
                apply StepOk.intro
                intro K hK
                obtain ⟨a1, a2, a3, hbz⟩ := HCL.out _ (HKJ.out.trans (hwi.mono (T := fun k => S0 k ∨ N ≤ k) (fun _ h => h.elim)) (fun _ _ h => h))
                have qm := (hwi.blk HMB.out (fun h => h)).k2
                go_simp
                apply hK
                · rfl
                · conv => (lhs; whnf)
                · exact hwi
              simp only [put_lit, put_none]
              try dsimp only [List.set_cons_succ, List.set_cons_zero]
              apply Oblig.cons
              case h =>
                intro S w1 hwi hSi hd hcl
                apply StepOk.intro
                intro K hK
                obtain ⟨a1, a2, a3, hbz⟩ := HCL.out _ (HKJ.out.trans (hwi.mono (T := fun k => S0 k ∨ N ≤ k) (fun _ h => h.elim)) (fun _ _ h => h))
                have qm := (hwi.blk HMB.out (fun h => h)).k2
                go_simp
                apply hK
                · rfl
                · conv => (lhs; whnf)
                · exact hwi
              simp only [put_lit, put_none]
              try dsimp only [List.set_cons_succ, List.set_cons_zero]
              apply Oblig.cons
              case h =>
                intro S w1 hwi hSi hd hcl
                apply StepOk.intro
                intro K hK
                obtain ⟨a1, a2, a3, hbz⟩ := HCL.out _ (HKJ.out.trans (hwi.mono (T := fun k => S0 k ∨ N ≤ k) (fun _ h => h.elim)) (fun _ _ h => h))
                have qm := (hwi.blk HMB.out (fun h => h)).k2
                go_simp
                apply hK
                · rfl
                · conv => (lhs; whnf)
                · exact hwi
              simp only [put_lit, put_none]
              try dsimp only [List.set_cons_succ, List.set_cons_zero]
              apply Oblig.cons
              case h =>
                intro S w1 hwi hSi hd hcl
                apply StepOk.intro
                intro K hK
                obtain ⟨a1, a2, a3, hbz⟩ := HCL.out _ (HKJ.out.trans (hwi.mono (T := fun k => S0 k ∨ N ≤ k) (fun _ h => h.elim)) (fun _ _ h => h))
                have qm := (hwi.blk HMB.out (fun h => h)).k2
                go_simp
                apply hK
                · rfl
                · conv => (lhs; whnf)
                · exact hwi
              simp only [put_lit, put_none]
              try dsimp only [List.set_cons_succ, List.set_cons_zero]
              apply Oblig.cons
              case h =>
                intro S w1 hwi hSi hd hcl
                apply StepOk.intro
                intro K hK
                obtain ⟨a1, a2, a3, hbz⟩ := HCL.out _ (HKJ.out.trans (hwi.mono (T := fun k => S0 k ∨ N ≤ k) (fun _ h => h.elim)) (fun _ _ h => h))
                have qm := (hwi.blk HMB.out (fun h => h)).k2
                go_simp
                apply hK
                · rfl
                · conv => (lhs; whnf)
                · exact hwi
              simp only [put_lit, put_none]
              try dsimp only [List.set_cons_succ, List.set_cons_zero]
              apply Oblig.cons
              case h =>
                intro S w1 hwi hSi hd hcl
                apply StepOk.intro
                intro K hK
                obtain ⟨a1, a2, a3, hbz⟩ := HCL.out _ (HKJ.out.trans (hwi.mono (T := fun k => S0 k ∨ N ≤ k) (fun _ h => h.elim)) (fun _ _ h => h))
                have qm := (hwi.blk HMB.out (fun h => h)).k2
                go_simp
                apply hK
                · rfl
                · conv => (lhs; whnf)
                · exact hwi
              simp only [put_lit, put_none]
              try dsimp only [List.set_cons_succ, List.set_cons_zero]
              apply Oblig.cons
              case h =>
                intro S w1 hwi hSi hd hcl
                apply StepOk.intro
                intro K hK
                obtain ⟨a1, a2, a3, hbz⟩ := HCL.out _ (HKJ.out.trans (hwi.mono (T := fun k => S0 k ∨ N ≤ k) (fun _ h => h.elim)) (fun _ _ h => h))
                have qm := (hwi.blk HMB.out (fun h => h)).k2
                go_simp
                apply hK
                · rfl
                · conv => (lhs; whnf)
                · exact hwi
              simp only [put_lit, put_none]
              try dsimp only [List.set_cons_succ, List.set_cons_zero]
              apply Oblig.cons
              case h =>
                intro S w1 hwi hSi hd hcl
                apply StepOk.intro
                intro K hK
                obtain ⟨a1, a2, a3, hbz⟩ := HCL.out _ (HKJ.out.trans (hwi.mono (T := fun k => S0 k ∨ N ≤ k) (fun _ h => h.elim)) (fun _ _ h => h))
                have qm := (hwi.blk HMB.out (fun h => h)).k2
                go_simp
                apply hK
                · rfl
                · conv => (lhs; whnf)
                · exact hwi
              simp only [put_lit, put_none]
              try dsimp only [List.set_cons_succ, List.set_cons_zero]
              apply Oblig.cons
              case h =>
                intro S w1 hwi hSi hd hcl
                apply StepOk.intro
                intro K hK
                obtain ⟨a1, a2, a3, hbz⟩ := HCL.out _ (HKJ.out.trans (hwi.mono (T := fun k => S0 k ∨ N ≤ k) (fun _ h => h.elim)) (fun _ _ h => h))
                have qm := (hwi.blk HMB.out (fun h => h)).k2
                go_simp
                apply hK
                · rfl
                · conv => (lhs; whnf)
                · exact hwi
              simp only [put_lit, put_none]
              try dsimp only [List.set_cons_succ, List.set_cons_zero]
              apply Oblig.cons
              case h =>
                intro S w1 hwi hSi hd hcl
                apply StepOk.intro
                intro K hK
                obtain ⟨a1, a2, a3, hbz⟩ := HCL.out _ (HKJ.out.trans (hwi.mono (T := fun k => S0 k ∨ N ≤ k) (fun _ h => h.elim)) (fun _ _ h => h))
                have qm := (hwi.blk HMB.out (fun h => h)).k2
                go_simp
                apply hK
                · rfl
                · conv => (lhs; whnf)
                · exact hwi
              simp only [put_lit, put_none]
              try dsimp only [List.set_cons_succ, List.set_cons_zero]
              apply Oblig.cons
              case h =>
                intro S w1 hwi hSi hd hcl
                apply StepOk.intro
                intro K hK
                obtain ⟨a1, a2, a3, hbz⟩ := HCL.out _ (HKJ.out.trans (hwi.mono (T := fun k => S0 k ∨ N ≤ k) (fun _ h => h.elim)) (fun _ _ h => h))
                have qm := (hwi.blk HMB.out (fun h => h)).k2
                go_simp
                apply hK
                · rfl
                · conv => (lhs; whnf)
                · exact hwi
              simp only [put_lit, put_none]
              try dsimp only [List.set_cons_succ, List.set_cons_zero]
              apply Oblig.cons
              case h =>
                intro S w1 hwi hSi hd hcl
                apply StepOk.intro
                intro K hK
                obtain ⟨a1, a2, a3, hbz⟩ := HCL.out _ (HKJ.out.trans (hwi.mono (T := fun k => S0 k ∨ N ≤ k) (fun _ h => h.elim)) (fun _ _ h => h))
                have qm := (hwi.blk HMB.out (fun h => h)).k2
                go_simp
                apply hK
                · rfl
                · conv => (lhs; whnf)
                · exact hwi
              simp only [put_lit, put_none]
              try dsimp only [List.set_cons_succ, List.set_cons_zero]
              apply Oblig.cons
              case h =>
                intro S w1 hwi hSi hd hcl
                apply StepOk.intro
                intro K hK
                obtain ⟨a1, a2, a3, hbz⟩ := HCL.out _ (HKJ.out.trans (hwi.mono (T := fun k => S0 k ∨ N ≤ k) (fun _ h => h.elim)) (fun _ _ h => h))
                have qm := (hwi.blk HMB.out (fun h => h)).k2
                go_simp
                apply hK
                · rfl
                · conv => (lhs; whnf)
                · exact hwi
              simp only [put_lit, put_none]
              try dsimp only [List.set_cons_succ, List.set_cons_zero]
              apply Oblig.cons
              case h =>
                intro S w1 hwi hSi hd hcl
                apply StepOk.intro
                intro K hK
                obtain ⟨a1, a2, a3, hbz⟩ := HCL.out _ (HKJ.out.trans (hwi.mono (T := fun k => S0 k ∨ N ≤ k) (fun _ h => h.elim)) (fun _ _ h => h))
                have qm := (hwi.blk HMB.out (fun h => h)).k2
                go_simp
                apply hK
                · rfl
                · conv => (lhs; whnf)
                · exact hwi
              simp only [put_lit, put_none]
              try dsimp only [List.set_cons_succ, List.set_cons_zero]
              apply Oblig.cons
              case h =>
                intro S w1 hwi hSi hd hcl
                apply StepOk.intro
                intro K hK
                obtain ⟨a1, a2, a3, hbz⟩ := HCL.out _ (HKJ.out.trans (hwi.mono (T := fun k => S0 k ∨ N ≤ k) (fun _ h => h.elim)) (fun _ _ h => h))
                have qm := (hwi.blk HMB.out (fun h => h)).k2
                go_simp
                apply hK
                · rfl
                · conv => (lhs; whnf)
                · exact hwi
              simp only [put_lit, put_none]
              try dsimp only [List.set_cons_succ, List.set_cons_zero]
              exact Oblig.nil
            case h0 =>
              exact (Keep.refl _ _).drew
            case hend =>
              intro S wx hwi hall
              have HKX := hid (HKJ.out.trans (hwi.mono (T := fun k => S0 k ∨ N ≤ k) (fun _ h => h.elim)) (fun _ _ h => h))
              have HSX := hid (hkeep _ _ _ _ HSJ.out hwi)
              obtain ⟨wy, rfl⟩ : ∃ wy : World, wy = wx := ⟨_, rfl⟩
              clear hwi hall
              go_wp2_with fail
              go_roundw
              case rel => exact ⟨j + 1, by omega, by go_num, by rw [HN.out, if_neg HNN.out]; exact HSX.out, HKX.out⟩
              case measure => simp [intOf]; omega
        · have hst := HSJ.out
          rw [List.take_of_length_le (by omega)] at hst
          have hpl : playF stp pk len l (most - n) n t' = (if (stp (pokeAll pk len n l t')).2 then ((stp (pokeAll pk len n l t')).1, n + 1, true) else playF stp pk len l (most - (n + 1)) (n + 1) (stp (pokeAll pk len n l t')).1) := by
            rw [show most - n = (most - (n + 1)) + 1 from by omega]; rfl
          have HP2 := hid hpl
          have HST := hid hst
          clear hpl hst
          cases hb2 : (stp (pokeAll pk len n l t')).2
          all_goals
            have HB2 := hid hb2
            clear hb2
            go_wp2_with fail
            refine (hstep n _ _ hlt HST.out).mono ?_
            rintro e w1 ⟨rfl, hs1, hk2⟩
            rw [HB2.out]
            have HS1 := hid hs1
            have HK1 := hid hk2
            clear hs1 hk2
            go_wp2_with fail
          · go_roundw
            case rel => exact ⟨n + 1, by omega, by go_num, _, HS1.out, by rw [← HPL.out, HP2.out, HB2.out]; rfl, (HK.out.trans HKJ.out (fun _ _ h => h)).trans HK1.out (fun _ _ h => h)⟩
            case measure => simp [intOf]; omega
          · have hfin : playF stp pk len l most 0 t = ((stp (pokeAll pk len n l t')).1, n + 1, true) := by rw [← HPL.out, HP2.out, HB2.out]; rfl
            have HF := hid hfin
            clear hfin
            go_ret2
            rw [HF.out]
            exact ⟨by go_num, ⟨_, HS1.out⟩, (HK.out.trans HKJ.out (fun _ _ h => h)).trans HK1.out (fun _ _ h => h)⟩
    · have hnm : n = most := by omega
      have hfin : playF stp pk len l most 0 t = (t', most, false) := by rw [← HPL.out, hnm, Nat.sub_self]; rfl
      have HF := hid hfin
      clear hfin hnm
      go_wp2_with fail
      go_ret2
      rw [HF.out]
      exact ⟨rfl, ⟨_, HS'.out⟩, HK.out⟩
end
end Go.Proofs.Ytlkniogapdhcpaa


namespace Go.Proofs.Ytlkniogapdhcpaa
open Go.RowKit
set_option linter.unusedVariables false
set_option linter.unusedSimpArgs false
set_option maxRecDepth 100000
section
variable {B : Nat} {w : World} {m y : Nat} {A Ag : Option Addr} {ca : Nat} {lv : Value} {b s : Nat}
theorem r7_over {pk : Bool} (t : SN) (hm : RefAt B w m A ca lv t.W t.L) (hy : R7 b s pk w y Ag t) (hR : ∀ k, RS y Ag k → ¬ RF m A lv k) (hf : t.fin = true) :
    Calls Try.prog 38 #[ptr y, ptr m] w fun e w' => e = .returned (.bool true) ∧ R7P B w m y A Ag lv b s pk t w' := by
  obtain ⟨c, n, h1, _, _⟩ := hy.at_
  have h2 := h1
  unfold r7cs at h2
  rw [hf] at h2
  refine (r7_step_end (m := m) h2).mono ?_
  rintro e w' ⟨rfl, rfl⟩
  exact ⟨rfl, A, ca, lv, Ag, hm, hy, hR, Keep.refl _ _, fun _ h => Or.inl h, fun _ h => Or.inl h, fun _ h => Or.inl h⟩
theorem r7_Count_Step (t : SN) (hm : RefAt B w m A ca lv t.W t.L) (hy : R7 b s false w y Ag t) (hR : ∀ k, RS y Ag k → ¬ RF m A lv k) (hi : NInv b s t) (hb : b ≤ 1000000) (hL : t.L.length ≤ 1000000000) :
    Calls Try.prog 38 #[ptr y, ptr m] w fun e w' => e = .returned (.bool (nStp b s t).2) ∧ R7P B w m y A Ag lv b s false (nStp b s t).1 w' := by
  show Calls _ _ _ _ (fun e w' => e = .returned (.bool (nNext b s t).fin) ∧ R7P B w m y A Ag lv b s false (nNext b s t) w')
  cases hf : t.fin with
  | false => exact r7_count hm hy hf hR hi hb hL
  | true =>
    rw [nNext_over hf, hf]
    exact r7_over t hm hy hR hf
theorem r7_Peek_Step (t : SN) (hm : RefAt B w m A ca lv t.W t.L) (hy : R7 b s true w y Ag t ∧ Ag = none) (hR : ∀ k, RS y Ag k → ¬ RF m A lv k) (hi : GInv b t) (hL : t.L.length ≤ 1000000000) :
    Calls Try.prog 38 #[ptr y, ptr m] w fun e w' => e = .returned (.bool (gStp b t).2) ∧ R7P B w m y A Ag lv b s true (gStp b t).1 w' := by
  show Calls _ _ _ _ (fun e w' => e = .returned (.bool (gNext b t).fin) ∧ R7P B w m y A Ag lv b s true (gNext b t) w')
  cases hf : t.fin with
  | false =>
    have e1 : (gNext b t).fin = true := by unfold gNext; rw [if_neg (by rw [hf]; decide)]
    rw [e1]
    exact r7_peek hm hy.1 hf hR hi.1 (hi.2 hf).2 hL hy.2
  | true =>
    rw [gNext_over hf, hf]
    exact r7_over t hm hy.1 hR hf
set_option maxHeartbeats 400000 in
theorem r7_Ans {pk : Bool} (t : SN) (hy : R7 b s pk w y Ag t) : Calls Try.prog 22 #[ptr y] w (Ret (.agg #[i64 0, i64 t.n, .bool t.ex, i64 0]) w) := by
  obtain ⟨c, n, h1, _, _⟩ := hy.at_
  have qy := (show Blk w y 88 [i64 (b : Int), i64 (s : Int), i64 t.left, .bool pk, .slice Ag n c, i64 0, i64 t.n, .bool t.ex, i64 0, .bool t.fin] from h1).k10
  clear h1 hy
  go_enter Try.func22, Try.ntmps22
  go_wp2
  exact bodyPost_ret (v := .agg #[i64 0, i64 t.n, .bool t.ex, i64 0]) (by simp [results, Try.results22, go_sem]) rfl ⟨rfl, (Keep.refl _ _).alloc _⟩
set_option maxHeartbeats 400000 in
theorem r7_Count (r : Int) (w : World) :
    Calls Try.prog 19 #[i64 (b : Int), i64 (s : Int), i64 r] w fun e w' => ∃ y, e = .returned (ptr y) ∧ w.heap.size ≤ y ∧ Keep0 w w' ∧ ∀ W L, R7 b s false w' y none ⟨W, L, r, [], 0, false, false⟩ := by
  go_enter Try.func19, Try.ntmps19
  go_wp2_with fail
  go_ret
  exact ⟨_, rfl, Nat.le_refl _, (Keep.refl _ _).alloc _, fun W L => ⟨0, 0, Blk.made rfl rfl, fun _ => ⟨rfl, World.ownsRow_nil _ _ _ _⟩, fun h => by cases h⟩⟩
set_option maxHeartbeats 400000 in
theorem r7_Peek (w : World) :
    Calls Try.prog 23 #[i64 (b : Int)] w fun e w' => ∃ y, e = .returned (ptr y) ∧ w.heap.size ≤ y ∧ Keep0 w w' ∧ ∀ W L, R7 b 0 true w' y none ⟨W, L, 0, [], 0, false, false⟩ := by
  go_enter Try.func23, Try.ntmps23
  go_wp2_with fail
  go_ret
  exact ⟨_, rfl, Nat.le_refl _, (Keep.refl _ _).alloc _, fun W L => ⟨0, 0, Blk.made rfl rfl, fun _ => ⟨rfl, World.ownsRow_nil _ _ _ _⟩, fun _ => rfl⟩⟩
end
end Go.Proofs.Ytlkniogapdhcpaa
