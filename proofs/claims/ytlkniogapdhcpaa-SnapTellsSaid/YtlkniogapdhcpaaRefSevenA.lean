/- breadlineref07: word, closed. -/
import Derived.Test.YtlkniogapdhcpaaSnapE
import Derived.Test.YtlkniogapdhcpaaRefOps
import Derived.Test.YtlkniogapdhcpaaRefOne
import Derived.Deep.DeepCutAuto
import Derived.Deep.QuietTactic
import Derived.BigQuiet
namespace Go.Proofs.Ytlkniogapdhcpaa
open Go.RowKit
set_option linter.unusedVariables false
set_option linter.unusedSimpArgs false
set_option maxRecDepth 100000
/-- append of nothing: a nil slice -/
theorem wpl_append_none {P : Program} {ops : Array Oper} {rest : List Oper} {o : Oper} {a : Act} {w : World} {Q : Exit → Act → World → Prop}
    (hgd : o.guard = none) (s x : Operand) (t : TypeId) (ho : o.op = .call { callee := .builtin .append, args := #[s, x], argTypes := #[t, t] })
    (e : TypeId) (i : TypeInfo) (ht : P.underlying t = some (.slice e)) (hi : P.info? e = some i)
    (b : Addr) (n c : Nat) (hs : a.eval s = .slice (some b) n c) (gv : Value) (hx : a.eval x = gv) (hgv : gv = .slice none 0 0) (hn : n ≤ c) (A' : Option Addr) (n' c' : Nat) (hA : A' = some b) (hn' : n' = n) (hc' : c' = c)
    (h : wpList P ops Q rest (a.put o.dst (.slice A' n' c')) w) : wpList P ops Q (o :: rest) a w :=
  wpList_step fun {K} hK => by
    subst hgv hA hn' hc'
    have hw : Region.wanted o (yielded ops a.tmps) = true := by simp [Region.wanted, hgd]
    rw [if_pos hw]
    have hr : (Builtin.append_ #[t, t] o.type #[.slice (some b) n' c', .slice none 0 0]).run P w = .ok (.slice (some b) n' c') w := by
      simp [Builtin.append_, run_underlying ht, sizeOf, typeInfo, hi, Builtin.lenOf, Builtin.firstCells, hn, storeCells]
    unfold Oper.wp execOp
    simp only [ho, resolve, invoke, builtin, Sem.run_bind, Sem.run_pure, Result.andThen_ok, List.map_toArray, List.map_cons, List.map_nil, hs, hx, hr]
    exact hK _ _ h
/-- the loop of closed: which stripes were loaded alike, twice -/
def vB (s : Nat) (g : List Int) : Nat → Bool
  | 0 => true
  | i + 1 => vB s g i && (rd g (3 + i) == rd g (4 + s + i))
theorem vB_vw (s : Nat) (g : List Int) : ∀ i, i ≤ s → vB s g i = true → ∀ j, j < i → vw s g 3 j = vw s g (4 + s) j := by
  intro i
  induction i with
  | zero => intro _ _ j h; omega
  | succ i ih =>
    intro hi h j hj
    simp only [vB, Bool.and_eq_true, beq_iff_eq] at h
    by_cases e : j = i
    · subst e
      unfold vw
      rw [if_pos (by omega), if_pos (by omega)]
      exact h.2
    · exact ih (by omega) h.1 j (by omega)
theorem vw_vB (s : Nat) (g : List Int) (h : ∀ j, j < s → vw s g 3 j = vw s g (4 + s) j) : ∀ i, i ≤ s → vB s g i = true := by
  intro i
  induction i with
  | zero => intro _; rfl
  | succ i ih =>
    intro hi
    have h1 := h i (by omega)
    unfold vw at h1
    rw [if_pos (by omega), if_pos (by omega)] at h1
    simp only [vB, Bool.and_eq_true, beq_iff_eq]
    exact ⟨ih (by omega), h1⟩
theorem vB_view {s : Nat} {g : List Int} (hs : s ≤ 8) : vB s g s = viewB s g := by
  rw [Bool.eq_iff_iff]
  constructor
  · intro h
    have h1 := vB_vw s g s (Nat.le_refl _) h
    have h2 : ∀ j, vw s g 3 j = vw s g (4 + s) j := by
      intro j
      by_cases hj : j < s
      · exact h1 j hj
      · unfold vw; rw [if_neg hj, if_neg hj]
    unfold viewB
    simp only [h2]
    simp
  · intro h
    refine vw_vB s g (fun j hj => ?_) s (Nat.le_refl _)
    unfold viewB at h
    simp only [Bool.and_eq_true, beq_iff_eq] at h
    have hj8 : j = 0 ∨ j = 1 ∨ j = 2 ∨ j = 3 ∨ j = 4 ∨ j = 5 ∨ j = 6 ∨ j = 7 := by omega
    rcases hj8 with rfl | rfl | rfl | rfl | rfl | rfl | rfl | rfl <;> simp [h]
theorem gsum_8 (s : Nat) (g : List Int) (hs : 1 ≤ s ∧ s ≤ 8) : gsum s g 8 = gsum s g s := by
  have h2 : ∀ d, gsum s g (s + d) = gsum s g s := by
    intro d
    induction d with
    | zero => rfl
    | succ d ih =>
      show wrap64 (gsum s _ (s + d) + pVal (vw s _ 3 (s + d))) = _
      rw [ih, show vw s g 3 (s + d) = 0 from by unfold vw; rw [if_neg (by omega)], show pVal 0 = 0 by unfold pVal wrap32; omega, Int.add_zero]
      obtain ⟨u, rfl⟩ : ∃ u, s = u + 1 := ⟨s - 1, by omega⟩
      show wrap64 (wrap64 _) = wrap64 _
      exact wrap64_wrap _
  have := h2 (8 - s)
  rw [show s + (8 - s) = 8 by omega] at this
  exact this
section
variable {B : Nat} {w : World} {m y : Nat} {b s : Nat} {lf an : Int} {pk ax en : Bool} {gv : Value} {g c : Nat}
set_option maxHeartbeats 1000000 in
theorem ref7_word (i : Nat) (hy : Blk w y 88 [i64 (b : Int), i64 (s : Int), i64 lf, .bool pk, gv, i64 0, i64 an, .bool ax, i64 0, .bool en]) (hb : b ≤ 1000000) (hs : 1 ≤ s ∧ s ≤ 8) (hi : i < 4 + 2 * s) : Calls Try.prog 50 #[ptr y, i64 (i : Int)] w (Ret (i64 ((wat b s i : Nat) : Int)) w) := by
  have qy := hy.k10
  have y1 : IntKind.i64.wrap (3 + (s : Int)) = 3 + (s : Int) := IntWalk.i64_in _ (by omega)
  have y2 : IntKind.i64.wrap ((b : Int) + 1) = ((b + 1 : Nat) : Int) := IntWalk.i64_in _ (by omega)
  have y3 : IntKind.i64.wrap ((b : Int) + 2) = ((b + 2 : Nat) : Int) := IntWalk.i64_in _ (by omega)
  have y4 : IntKind.i64.wrap ((b : Int) + 4) = (b : Int) + 4 := IntWalk.i64_in _ (by omega)
  have y5 : IntKind.i64.wrap ((b : Int) + 4 + (i : Int)) = (b : Int) + 4 + (i : Int) := IntWalk.i64_in _ (by omega)
  have hi0 : i = 0 ∨ i = 1 ∨ i = 2 ∨ (3 ≤ i ∧ i < 3 + s) ∨ i = 3 + s ∨ (4 + s ≤ i) := by omega
  clear hy
  rcases hi0 with rfl | rfl | rfl | ⟨h1, h2⟩ | rfl | h1
  · rw [wat_0]
    go_enter Try.func50, Try.ntmps50
    go_wp2_with fail
    go_ret
    exact ⟨rfl, Keep.refl _ _⟩
  · rw [wat_1]
    have g2 : ((1 : Int) == 3 + (s : Int)) = false := beq_eq_false_iff_ne.2 (by omega)
    go_enter Try.func50, Try.ntmps50
    go_wp2_with fail
    go_ret
    exact ⟨rfl, Keep.refl _ _⟩
  · rw [wat_two]
    have g2 : ((2 : Int) == 3 + (s : Int)) = false := beq_eq_false_iff_ne.2 (by omega)
    go_enter Try.func50, Try.ntmps50
    go_wp2_with fail
    go_ret
    exact ⟨rfl, Keep.refl _ _⟩
  · have e : wat b s i = b + (4 + (i - 3)) := by have := wat_a (b := b) (s := s) (i := i - 3) (by omega); rw [show 3 + (i - 3) = i by omega] at this; exact this
    rw [e]
    have g1 : ((i : Int) == 0) = false := beq_eq_false_iff_ne.2 (by omega)
    have g2 : ((i : Int) == 3 + (s : Int)) = false := beq_eq_false_iff_ne.2 (by omega)
    have g3 : ((i : Int) == 1) = false := beq_eq_false_iff_ne.2 (by omega)
    have g4 : ((i : Int) == 2) = false := beq_eq_false_iff_ne.2 (by omega)
    have g5 : decide ((i : Int) < 3 + (s : Int)) = true := decide_eq_true (by omega)
    have y6 : IntKind.i64.wrap ((b : Int) + 4 + (i : Int) - 3) = ((b + (4 + (i - 3)) : Nat) : Int) := by rw [IntWalk.i64_in _ (by omega)]; omega
    clear e
    generalize b + (4 + (i - 3)) = z at *
    go_enter Try.func50, Try.ntmps50
    go_wp2_with fail
    go_ret
    exact ⟨rfl, Keep.refl _ _⟩
  · rw [wat_m]
    have g1 : (((3 + s : Nat) : Int) == 0) = false := beq_eq_false_iff_ne.2 (by omega)
    have g2 : (((3 + s : Nat) : Int) == 3 + (s : Int)) = true := by simp
    generalize ((3 + s : Nat) : Int) = z at *
    go_enter Try.func50, Try.ntmps50
    go_wp2_with fail
    go_ret
    exact ⟨rfl, Keep.refl _ _⟩
  · have e : wat b s i = b + (4 + (i - (4 + s))) := by have := wat_b (b := b) (s := s) (i := i - (4 + s)) (by omega); rw [show 4 + s + (i - (4 + s)) = i by omega] at this; exact this
    rw [e]
    have g1 : ((i : Int) == 0) = false := beq_eq_false_iff_ne.2 (by omega)
    have g2 : ((i : Int) == 3 + (s : Int)) = false := beq_eq_false_iff_ne.2 (by omega)
    have g3 : ((i : Int) == 1) = false := beq_eq_false_iff_ne.2 (by omega)
    have g4 : ((i : Int) == 2) = false := beq_eq_false_iff_ne.2 (by omega)
    have g5 : decide ((i : Int) < 3 + (s : Int)) = false := decide_eq_false (by omega)
    have y6 : IntKind.i64.wrap ((b : Int) + 4 + (i : Int) - 4) = (b : Int) + (i : Int) := by rw [IntWalk.i64_in _ (by omega)]; omega
    have y7 : IntKind.i64.wrap ((b : Int) + (i : Int) - (s : Int)) = ((b + (4 + (i - (4 + s))) : Nat) : Int) := by rw [IntWalk.i64_in _ (by omega)]; omega
    clear e
    generalize b + (4 + (i - (4 + s))) = z at *
    go_enter Try.func50, Try.ntmps50
    go_wp2_with fail
    go_quiet (fail)
    go_wp2_with fail
    go_ret
    exact ⟨rfl, (Keep.refl _ _).drewN nq⟩
set_option maxHeartbeats 4000000 in
theorem ref7_closed (G : List Int) (n : Nat) (hn : n = 4 + 2 * s) (hy : Blk w y 88 [i64 (b : Int), i64 (s : Int), i64 lf, .bool pk, .slice (some ⟨g, 0, none⟩) n c, i64 0, i64 an, .bool ax, i64 0, .bool en]) (hg : Ints w g G) (hgy : ¬ g = y) (hG : G.length = n) (hs : 1 ≤ s ∧ s ≤ 8) (hl : 1 ≤ lf ∧ lf ≤ 1000) :
    Calls Try.prog 51 #[ptr y] w fun e w' => e = .returned (.tuple #[]) ∧ Keep (fun k => k = y) w w' ∧
      Blk w' y 88 [i64 (b : Int), i64 (s : Int), i64 (lf - 1), .bool pk, .slice none 0 0, i64 0, i64 (if calmB s G = true then gsum s G 8 else if lf - 1 = 0 then rd G 2 else an), .bool (if calmB s G = true then true else if lf - 1 = 0 then false else ax), i64 0, .bool (if calmB s G = true then true else if lf - 1 = 0 then true else en)] := by
  obtain ⟨q, hq⟩ : ∃ q, q = 3 + s := ⟨_, rfl⟩
  have qy := hy.k10
  have HY := hid hy
  have HG := hid hg
  have c0 := hg.cell 0 (by omega)
  have c1 := hg.cell 1 (by omega)
  have c2 := hg.cell 2 (by omega)
  have c3 := hg.cell q (by omega)
  have zg := hg.lt
  have y1 : IntKind.i64.wrap (3 + (s : Int)) = (q : Int) := by rw [IntWalk.i64_in _ (by omega)]; omega
  have k0 : 0 < n := by omega
  have k1 : 1 < n := by omega
  have k2 : 2 < n := by omega
  have k3 : q < n := by omega
  have k1i : (1 : Int) < (n : Int) := by omega
  have k2i : (2 : Int) < (n : Int) := by omega
  have HGL := hid hG
  have HGY := hid hgy
  clear hgy
  have hcal : calmB s G = ((rd G 0 == rd G 1 && rd G 0 == rd G q) && vB s G s) := by
    rw [vB_view hs.2]; unfold calmB; rw [← hq, Bool.and_assoc]
  have HCAL := hid hcal
  have HGS := hid (gsum_8 s G hs)
  have HNQ := hid (show n = 4 + 2 * s ∧ q = 3 + s from ⟨hn, hq⟩)
  clear hy hg hG hcal hn hq
  obtain ⟨rn, hrn⟩ : ∃ v, v = (if calmB s G = true then gsum s G 8 else if lf - 1 = 0 then rd G 2 else an) := ⟨_, rfl⟩
  obtain ⟨rx, hrx⟩ : ∃ v, v = (if calmB s G = true then true else if lf - 1 = 0 then false else ax) := ⟨_, rfl⟩
  obtain ⟨re, hre⟩ : ∃ v, v = (if calmB s G = true then true else if lf - 1 = 0 then true else en) := ⟨_, rfl⟩
  rw [← hrn, ← hrx, ← hre]
  have HRES := hid (And.intro hrn (And.intro hrx hre))
  clear hrn hrx hre
  cases h0 : (rd G 0 == rd G 1)
  all_goals
    obtain ⟨b0, hb0⟩ : ∃ b0, b0 = (rd G 0 == rd G 1 && rd G 0 == rd G q) := ⟨_, rfl⟩
    have HB0 := hid hb0
    rw [h0] at hb0
    clear hb0
    rw [← HB0.out] at HCAL
    go_enter Try.func51, Try.ntmps51
    go_wp2_with fail
    go_quiet (fail)
    go_wp2_with fail
    obtain ⟨w1, hw1⟩ : ∃ v, v = w.drewN nq := ⟨_, rfl⟩
    rw [← hw1]
    have HK1 : Hid (Keep0 w w1) := hid (by rw [hw1]; exact (Keep.refl _ _).drewN nq)
    have HH0 := hid h0
    clear hw1 c0 c1 c2 c3 qy h0
    go_loopw [3, 4, 5] (fun u v x wr => ∃ i : Nat, i ≤ s ∧ u = .bool (b0 && vB s G i) ∧ v = .int .i64 (gsum s G i) ∧ x = .int .i64 (i : Int) ∧ Keep0 w1 wr) (fun _ _ x _ => s - (intOf x).toNat)
    case atStart => exact ⟨0, Nat.zero_le _, by rw [HB0.out, HH0.out]; simp [vB], rfl, rfl, Keep.refl _ _⟩
    case round =>
      obtain ⟨i, hi, rfl, rfl, rfl, hk⟩ := hrel
      have HKR := hid (HK1.out.trans hk (fun _ _ h => h))
      have HYR := hid (HKR.out.blk HY.out (fun h => h))
      have HGR := hid (HKR.out.ints HG.out (fun h => h))
      have HKL := hid hk
      have qr := HYR.out.k10
      clear hk
      by_cases hlt : i < s
      · obtain ⟨p1, hp1⟩ : ∃ p, p = 3 + i := ⟨_, rfl⟩
        obtain ⟨p2, hp2⟩ : ∃ p, p = 4 + s + i := ⟨_, rfl⟩
        have hnq := HNQ.out
        have d1 := HGR.out.cell p1 (by rw [HGL.out]; omega)
        have d2 := HGR.out.cell p2 (by rw [HGL.out]; omega)
        have zr := HGR.out.lt
        have e1 : p1 < n := by omega
        have e2 : p2 < n := by omega
        have y2 : IntKind.i64.wrap (3 + (i : Int)) = (p1 : Int) := by rw [IntWalk.i64_in _ (by omega)]; omega
        have y3 : IntKind.i64.wrap (4 + (s : Int)) = 4 + (s : Int) := IntWalk.i64_in _ (by omega)
        have y4 : IntKind.i64.wrap (4 + (s : Int) + (i : Int)) = (p2 : Int) := by rw [IntWalk.i64_in _ (by omega)]; omega
        have hvn : (b0 && vB s G (i + 1)) = (b0 && vB s G i && (rd G p1 == rd G p2)) := by rw [hp1, hp2, Bool.and_assoc]; rfl
        have HVN := hid hvn
        have hgn : gsum s G (i + 1) = wrap64 (gsum s G i + pVal (rd G p1)) := by rw [hp1]; show wrap64 (gsum s G i + pVal (vw s G 3 i)) = _; rw [show vw s G 3 i = rd G (3 + i) from by unfold vw; rw [if_pos hlt]]
        have HGN := hid hgn
        have y5 : IntKind.i64.wrap (gsum s G i + pVal (rd G p1)) = wrap64 (gsum s G i + pVal (rd G p1)) := by rw [IntKind.wrap_i64]; unfold wrap64; first | rfl | omega
        have D1 := hid d1
        clear hp1 hp2 hnq hvn hgn d1
        generalize (b0 && vB s G i) = bi at *
        generalize gsum s G i = gi at *
        cases bi
        all_goals
          have d1 := D1.out
          go_wp2_with fail
          go_quiet (fail)
          go_wp2_with fail
          refine (ref1_Value _ _).mono ?_
          rintro e w2 ⟨rfl, rfl⟩
          go_wp2_with fail
          go_roundw
          case rel => exact ⟨i + 1, by omega, by rw [HVN.out]; first | rfl | simp, by rw [HGN.out], by go_num, HKL.out.drewN nq⟩
          case measure => simp [intOf]; omega
      · obtain rfl : i = s := by omega
        have hb1 := HCAL.out
        have hres := HRES.out
        have y2 : IntKind.i64.wrap (lf - 1) = lf - 1 := IntWalk.i64_in _ (by omega)
        have d2 := HGR.out.cell 2 (by rw [HGL.out]; exact k2)
        have zr := HGR.out.lt
        rw [hb1, HGS.out] at hres
        have HRES2 := hid hres
        clear hb1 HRES HCAL hres
        generalize (b0 && vB i G i) = bi at *
        generalize gsum i G i = gi at *
        have h5 := ((HYR.out.set 2 (i64 (lf - 1))).set 4 (.slice none 0 0))
        simp only [List.set_cons_succ, List.set_cons_zero] at h5
        have HY5 := hid h5
        have HK5 := hid (((HKR.out.mono (T := fun k => k = y) (fun _ h => h.elim)).set ⟨y, 2, none⟩ (i64 (lf - 1)) (fun _ => rfl)).set ⟨y, 4, none⟩ (.slice none 0 0) (fun _ => rfl))
        have D2 := hid (((show Keep (fun k => k = y) wr _ from ((Keep.refl (fun k => k = y) wr).set ⟨y, 2, none⟩ (i64 (lf - 1)) (fun _ => rfl)).set ⟨y, 4, none⟩ (.slice none 0 0) (fun _ => rfl))).ints HGR.out (HGY.out))
        clear h5 d2 zr
        go_upto_region 10 with fail
        generalize (wr.setCell ⟨y, 2, none⟩ (i64 (lf - 1))).setCell ⟨y, 4, none⟩ (.slice none 0 0) = w5 at *
        have q5 := HY5.out.k10
        have d2 := D2.out.cell 2 (by rw [HGL.out]; exact k2)
        have zr := D2.out.lt
        have hres := HRES2.out
        clear qr HYR HGR HKR HKL HRES2
        cases bi
        · by_cases hz : lf - 1 = 0
          · have g1 : (lf - 1 == 0) = true := by simpa using hz
            simp only [Bool.false_eq_true, hz, ↓reduceIte] at hres
            obtain ⟨rfl, rfl, rfl⟩ := hres
            clear hz
            have hfin := (((((HY5.out.set 5 (i64 0)).set 6 (i64 (rd G 2))).set 7 (.bool false)).set 8 (i64 0)).set 9 (.bool true))
            simp only [List.set_cons_succ, List.set_cons_zero] at hfin
            have HF := hid hfin
            clear hfin
            go_wp2_with fail
            go_end0
            exact ⟨rfl, HK5.out.trans (show Keep (fun k => k = y) w5 _ from by repeat (with_reducible first | exact Keep.refl _ _ | refine Keep.set ?_ _ _ (fun _ => rfl))) (fun _ _ h => h), HF.out⟩
          · have g1 : (lf - 1 == 0) = false := by simpa using hz
            simp only [Bool.false_eq_true, hz, ↓reduceIte] at hres
            obtain ⟨rfl, rfl, rfl⟩ := hres
            clear hz
            have HF := HY5
            go_wp2_with fail
            go_end0
            exact ⟨rfl, HK5.out.trans (show Keep (fun k => k = y) w5 _ from by repeat (with_reducible first | exact Keep.refl _ _ | refine Keep.set ?_ _ _ (fun _ => rfl))) (fun _ _ h => h), HF.out⟩
        · rw [if_pos rfl, if_pos rfl, if_pos rfl] at hres
          obtain ⟨rfl, rfl, rfl⟩ := hres
          have hfin := (((((HY5.out.set 5 (i64 0)).set 6 (i64 rn)).set 7 (.bool true)).set 8 (i64 0)).set 9 (.bool true))
          simp only [List.set_cons_succ, List.set_cons_zero] at hfin
          have HF := hid hfin
          clear hfin
          go_wp2_with fail
          go_end0
          exact ⟨rfl, HK5.out.trans (show Keep (fun k => k = y) w5 _ from by repeat (with_reducible first | exact Keep.refl _ _ | refine Keep.set ?_ _ _ (fun _ => rfl))) (fun _ _ h => h), HF.out⟩
end
end Go.Proofs.Ytlkniogapdhcpaa
