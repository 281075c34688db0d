/- breadlineref11: Step. -/
import Derived.Test.YtjloccnbcgkmgaaRefEleven
import Derived.Test.YtjloccnbcgkmgaaClaimU
namespace Go.Proofs.Ytjloccnbcgkmgaa
open Go.RowKit
set_option linter.unusedVariables false
set_option linter.unusedSimpArgs false
set_option maxRecDepth 100000
section
variable {B : Nat} {w : World} {m y : Nat} {A : Option Addr} {ca : Nat} {lv : Value} {W : List Int} {L : List Acc} {tt sr g lm r : Int} {K s : Nat} {PA : Option Addr} {pn pc : Nat} {LA : Option Addr} {ln lc : Nat}
theorem CEnd.mid {last i : Nat} {P Q : World → Prop} {S : Nat → Bool} {wx : World} (hl : S last = false) (hi : i ≠ last) (h : P wx) : CEnd last P Q (upd S i) wx := by
  unfold CEnd
  rw [show upd S i last = S last from by simp [upd, Ne.symm hi], hl]
  exact ⟨fun _ => h, fun h => by cases h⟩
/-- what a step leaves -/
def R11P (B : Nat) (w : World) (m y : Nat) (A : Option Addr) (lv : Value) (cells : List Value) (W' : List Int) (L' : List Acc) (w' : World) : Prop :=
  ∃ A' c' lv', RefAt B w' m A' c' lv' W' L' ∧ Blk w' y 91 cells ∧ Keep (fun c => (c = m ∨ lv.ownBlock = some c) ∨ c = y) w w' ∧
    (∀ c, (Value.slice A' 0 0).ownBlock = some c → (Value.slice A 0 0).ownBlock = some c ∨ w.heap.size ≤ c) ∧ (∀ c, lv'.ownBlock = some c → lv.ownBlock = some c ∨ w.heap.size ≤ c)
theorem r11_out {w2 w3 : World} {W' : List Int} {L' : List Acc} {c0 cells : List Value} (h : RefPost B w m A lv W' L' w2) (hy : Blk w2 y 91 c0) (hk : Keep (fun k => k = y) w2 w3) (hb : Blk w3 y 91 cells) : R11P B w m y A lv cells W' L' w3 := by
  obtain ⟨A3, c3, lv3, hm, hkk, ha, hl⟩ := h
  exact ⟨A3, c3, lv3, hm.keep hk (fun c h => r11_far2 hm hy c h), hb, (hkk.mono (fun _ h => Or.inl h)).trans hk (fun _ _ h => Or.inr h), ha, hl⟩
set_option maxHeartbeats 1000000 in
theorem r11_step_end {cj : Int} {sn : Bool} {saw st er na : Int} (hy : Blk w y 91 [i64 tt, i64 sr, i64 g, i64 lm, i64 r, i64 (K : Int), .slice PA pn pc, .slice LA ln lc, i64 (s : Int), i64 cj, .bool sn, i64 saw, i64 st, .bool true, i64 er, i64 na, .bool false, i64 0]) :
    Calls Try.prog 51 #[ptr y, ptr m] w fun e w' => e = .returned (.bool true) ∧ w = w' := by
  have qy := hy.k18
  clear hy
  go_enter Try.func51, Try.ntmps51
  go_wp2_with fail
  go_ret
  exact ⟨rfl, rfl⟩
set_option maxHeartbeats 2000000 in
theorem r11_look_free (wi j : Nat) (saw : Int) (hm : RefAt B w m A ca lv W L) (hy : Blk w y 91 [i64 tt, i64 sr, i64 g, i64 lm, i64 r, i64 (K : Int), .slice PA pn pc, .slice LA ln lc, i64 (s : Int), i64 (j : Int), .bool false, i64 saw, i64 0, .bool false, i64 0, i64 0, .bool false, i64 0]) (hj : j < K) (hK : K ≤ 16) (hs : s ≤ 1000000) (hi : wi < W.length) (hL : L.length ≤ 1000000000)
    (hq : st10 (rd W wi) = 0) (hp : ∀ w', Calls Try.prog 16 #[.agg #[i64 tt, i64 sr, i64 g, i64 lm, i64 r, i64 (K : Int), .slice PA pn pc, .slice LA ln lc], i64 ((ck K s j : Nat) : Int)] w' (Ret (i64 (wi : Int)) w')) :
    Calls Try.prog 51 #[ptr y, ptr m] w fun e w' => e = .returned (.bool false) ∧
      R11P B w m y A lv [i64 tt, i64 sr, i64 g, i64 lm, i64 r, i64 (K : Int), .slice PA pn pc, .slice LA ln lc, i64 (s : Int), i64 (j : Int), .bool true, i64 (rd W wi), i64 0, .bool false, i64 0, i64 0, .bool false, i64 0] W (L ++ [⟨1, (wi : Nat), rd W wi, 0, false⟩]) w' := by
  have qy := hy.k18
  have HY := hid hy
  have HM := hid hm
  have HP := hid hp
  have HFY := hid (r11_far hm hy)
  have y0 : ¬ (K : Int) = 0 := by omega
  have y1 : IntKind.i64.wrap ((s : Int) + (j : Int)) = (s : Int) + (j : Int) := IntWalk.i64_in _ (by omega)
  have y2 : ((s : Int) + (j : Int)).tmod (K : Int) = ((ck K s j : Nat) : Int) := by
    rw [Int.tmod_eq_emod_of_nonneg (by omega)]; rfl
  generalize ck K s j = k at *
  clear hy hm hp
  go_enter Try.func51, Try.ntmps51
  go_wp2_with fail
  go_quiet (fail)
  have HK1 : Hid (Keep0 w (w.drewN nq)) := hid ((Keep.refl _ _).drewN nq)
  have HY1 := hid (HY.out.drewN nq)
  have HM1 := hid (HM.out.keep HK1.out (fun _ _ h => h))
  clear qy
  generalize w.drewN nq = w1 at *
  have qy1 := HY1.out.k18
  go_wp2_with fail
  refine (HP.out _).mono ?_
  rintro e w2 ⟨rfl, hk⟩
  have HK2 := hid (HK1.out.trans hk (fun _ _ h => h))
  have HY2 := hid (hk.blk HY1.out (fun h => h))
  have HM2 := hid (HM1.out.keep hk (fun _ _ h => h))
  clear hk qy1 HK1 HY1 HM1
  have qy2 := HY2.out.k18
  go_wp2_with fail
  refine (ref_Load (wi : Int) HM2.out (by omega) (by omega) hL).mono ?_
  rintro e w3 ⟨rfl, hpo⟩
  rw [Int.toNat_natCast] at *
  have HP3 := hid (hpo.before HK2.out)
  have HY3 := hid (hpo.choose_spec.choose_spec.choose_spec.2.1.blk HY2.out (r11_far HM2.out HY2.out))
  clear hpo qy2
  have qy3 := HY3.out.k18
  go_wp2_with fail
  have h := (HY3.out.set 11 (i64 (rd W wi))).set 10 (.bool true)
  simp only [List.set_cons_succ, List.set_cons_zero] at h
  have HY4 := hid h
  have HK4 : Hid (Keep (fun k => k = y) w3 _) := hid (((Keep.refl (fun k => k = y) w3).set ⟨y, 11, none⟩ (i64 (rd W wi)) (fun _ => rfl)).set ⟨y, 10, none⟩ (.bool true) (fun _ => rfl))
  clear h qy3
  generalize (w3.setCell ⟨y, 11, none⟩ (i64 (rd W wi))).setCell ⟨y, 10, none⟩ (.bool true) = w4 at *
  have qy4 := HY4.out.k18
  refine (ref10_State (rd W wi) _).mono ?_
  rintro e w5 ⟨rfl, rfl⟩
  rw [hq]
  go_wp2_with fail
  go_ret
  exact ⟨rfl, r11_out HP3.out HY3.out HK4.out HY4.out⟩
set_option maxHeartbeats 2000000 in
theorem r11_look_next (wi j : Nat) (saw : Int) (hm : RefAt B w m A ca lv W L) (hy : Blk w y 91 [i64 tt, i64 sr, i64 g, i64 lm, i64 r, i64 (K : Int), .slice PA pn pc, .slice LA ln lc, i64 (s : Int), i64 (j : Int), .bool false, i64 saw, i64 0, .bool false, i64 0, i64 0, .bool false, i64 0]) (hj : j < K) (hK : K ≤ 16) (hs : s ≤ 1000000) (hi : wi < W.length) (hL : L.length ≤ 1000000000)
    (hq : ¬ st10 (rd W wi) = 0) (hp : ∀ w', Calls Try.prog 16 #[.agg #[i64 tt, i64 sr, i64 g, i64 lm, i64 r, i64 (K : Int), .slice PA pn pc, .slice LA ln lc], i64 ((ck K s j : Nat) : Int)] w' (Ret (i64 (wi : Int)) w')) :
    Calls Try.prog 51 #[ptr y, ptr m] w fun e w' => e = .returned (.bool (decide (j + 1 = K))) ∧
      R11P B w m y A lv [i64 tt, i64 sr, i64 g, i64 lm, i64 r, i64 (K : Int), .slice PA pn pc, .slice LA ln lc, i64 (s : Int), i64 ((j + 1 : Nat) : Int), .bool false, i64 (rd W wi), i64 0, .bool (decide (j + 1 = K)), i64 (if j + 1 = K then 3 else 0), i64 0, .bool false, i64 0] W (L ++ [⟨1, (wi : Nat), rd W wi, 0, false⟩]) w' := by
  have HN := hid (fun (w2 : World) (hb : Blk w2 y 91 [i64 tt, i64 sr, i64 g, i64 lm, i64 r, i64 (K : Int), .slice PA pn pc, .slice LA ln lc, i64 (s : Int), i64 (j : Int), .bool true, i64 (rd W wi), i64 0, .bool false, i64 0, i64 0, .bool false, i64 0]) => r11_next j true (rd W wi) hb (by omega))
  generalize decide (j + 1 = K) = bn at *
  generalize (if j + 1 = K then (3 : Int) else 0) = er at *
  generalize ((j + 1 : Nat) : Int) = nj at *
  have qy := hy.k18
  have HY := hid hy
  have HM := hid hm
  have HP := hid hp
  have HFY := hid (r11_far hm hy)
  have y0 : ¬ (K : Int) = 0 := by omega
  have y1 : IntKind.i64.wrap ((s : Int) + (j : Int)) = (s : Int) + (j : Int) := IntWalk.i64_in _ (by omega)
  have y2 : ((s : Int) + (j : Int)).tmod (K : Int) = ((ck K s j : Nat) : Int) := by
    rw [Int.tmod_eq_emod_of_nonneg (by omega)]; rfl
  generalize ck K s j = k at *
  clear hy hm hp
  go_enter Try.func51, Try.ntmps51
  go_wp2_with fail
  go_quiet (fail)
  have HK1 : Hid (Keep0 w (w.drewN nq)) := hid ((Keep.refl _ _).drewN nq)
  have HY1 := hid (HY.out.drewN nq)
  have HM1 := hid (HM.out.keep HK1.out (fun _ _ h => h))
  clear qy
  generalize w.drewN nq = w1 at *
  have qy1 := HY1.out.k18
  go_wp2_with fail
  refine (HP.out _).mono ?_
  rintro e w2 ⟨rfl, hk⟩
  have HK2 := hid (HK1.out.trans hk (fun _ _ h => h))
  have HY2 := hid (hk.blk HY1.out (fun h => h))
  have HM2 := hid (HM1.out.keep hk (fun _ _ h => h))
  clear hk qy1 HK1 HY1 HM1
  have qy2 := HY2.out.k18
  go_wp2_with fail
  refine (ref_Load (wi : Int) HM2.out (by omega) (by omega) hL).mono ?_
  rintro e w3 ⟨rfl, hpo⟩
  rw [Int.toNat_natCast] at *
  have HP3 := hid (hpo.before HK2.out)
  have HY3 := hid (hpo.choose_spec.choose_spec.choose_spec.2.1.blk HY2.out (r11_far HM2.out HY2.out))
  clear hpo qy2
  have qy3 := HY3.out.k18
  go_wp2_with fail
  have h := (HY3.out.set 11 (i64 (rd W wi))).set 10 (.bool true)
  simp only [List.set_cons_succ, List.set_cons_zero] at h
  have HY4 := hid h
  have HK4 : Hid (Keep (fun k => k = y) w3 _) := hid (((Keep.refl (fun k => k = y) w3).set ⟨y, 11, none⟩ (i64 (rd W wi)) (fun _ => rfl)).set ⟨y, 10, none⟩ (.bool true) (fun _ => rfl))
  clear h qy3
  generalize (w3.setCell ⟨y, 11, none⟩ (i64 (rd W wi))).setCell ⟨y, 10, none⟩ (.bool true) = w4 at *
  have qy4 := HY4.out.k18
  refine (ref10_State (rd W wi) _).mono ?_
  rintro e w5 ⟨rfl, rfl⟩
  generalize st10 (rd W wi) = sv at *
  have y : (sv != 0) = true := by simpa using hq
  clear hq
  go_wp2_with fail
  refine (HN.out _ HY4.out).mono ?_
  rintro e w5 ⟨rfl, hk, hb⟩
  have HK5 := hid hk
  have HY5 := hid hb
  have qy5 := hb.k18
  clear hk hb qy4
  go_wp2_with fail
  go_ret
  exact ⟨rfl, r11_out HP3.out HY3.out (HK4.out.trans HK5.out (fun _ _ h => h)) HY5.out⟩
set_option maxHeartbeats 2000000 in
theorem r11_take_yes (wi j : Nat) (saw : Int) (hm : RefAt B w m A ca lv W L) (hy : Blk w y 91 [i64 tt, i64 sr, i64 g, i64 lm, i64 r, i64 (K : Int), .slice PA pn pc, .slice LA ln lc, i64 (s : Int), i64 (j : Int), .bool true, i64 saw, i64 0, .bool false, i64 0, i64 0, .bool false, i64 0]) (hj : j < K) (hK : K ≤ 16) (hs : s ≤ 1000000) (hi : wi < W.length) (hW : W.length ≤ 1000000) (hL : L.length ≤ 1000000000)
    (hq : (rd W wi == saw) = true) (hp : ∀ w', Calls Try.prog 16 #[.agg #[i64 tt, i64 sr, i64 g, i64 lm, i64 r, i64 (K : Int), .slice PA pn pc, .slice LA ln lc], i64 ((ck K s j : Nat) : Int)] w' (Ret (i64 (wi : Int)) w')) :
    Calls Try.prog 51 #[ptr y, ptr m] w fun e w' => e = .returned (.bool true) ∧
      R11P B w m y A lv [i64 tt, i64 sr, i64 g, i64 lm, i64 r, i64 (K : Int), .slice PA pn pc, .slice LA ln lc, i64 (s : Int), i64 (j : Int), .bool true, i64 saw, i64 (pNext6 saw 1), .bool true, i64 0, i64 ((ck K s j : Nat) : Int), .bool false, i64 0] (casW W wi saw (pNext6 saw 1)) (L ++ [⟨3, (wi : Nat), saw, pNext6 saw 1, true⟩]) w' := by
  have HT := hid (fun w0 => ref10_Turn saw w0)
  generalize pNext6 saw 1 = nv at *
  have qy := hy.k18
  have HY := hid hy
  have HM := hid hm
  have HP := hid hp
  have HFY := hid (r11_far hm hy)
  have y0 : ¬ (K : Int) = 0 := by omega
  have y1 : IntKind.i64.wrap ((s : Int) + (j : Int)) = (s : Int) + (j : Int) := IntWalk.i64_in _ (by omega)
  have y2 : ((s : Int) + (j : Int)).tmod (K : Int) = ((ck K s j : Nat) : Int) := by
    rw [Int.tmod_eq_emod_of_nonneg (by omega)]; rfl
  generalize ck K s j = k at *
  clear hy hm hp
  go_enter Try.func51, Try.ntmps51
  go_wp2_with fail
  go_quiet (fail)
  have HK1 : Hid (Keep0 w (w.drewN nq)) := hid ((Keep.refl _ _).drewN nq)
  have HY1 := hid (HY.out.drewN nq)
  have HM1 := hid (HM.out.keep HK1.out (fun _ _ h => h))
  clear qy
  generalize w.drewN nq = w1 at *
  have qy1 := HY1.out.k18
  go_wp2_with fail
  refine (HT.out _).mono ?_
  rintro e w2 ⟨rfl, rfl⟩
  go_wp2_with fail
  apply wp_region_text (WI := CEnd 12 (fun wx => Blk wx y 91 [i64 tt, i64 sr, i64 g, i64 lm, i64 r, i64 (K : Int), .slice PA pn pc, .slice LA ln lc, i64 (s : Int), i64 (j : Int), .bool true, i64 saw, i64 0, .bool false, i64 0, i64 0, .bool false, i64 0] ∧ RefAt B wx m A ca lv W L ∧ Keep0 w wx) (fun wx => Blk wx y 91 [i64 tt, i64 sr, i64 g, i64 lm, i64 r, i64 (K : Int), .slice PA pn pc, .slice LA ln lc, i64 (s : Int), i64 (j : Int), .bool true, i64 saw, i64 0, .bool false, i64 0, i64 0, .bool false, i64 0] ∧ RefPost B w m A lv (casW W wi saw (nv)) (L ++ [⟨3, (wi : Nat), saw, nv, true⟩]) wx)) (by kernel_rfl) (by kernel_rfl)
  case hob =>
    apply Oblig.cons
    case h =>
      intro S w1 hwi hSi hd hcl
      apply StepOk.intro
      intro K hK
      go_simp
      apply hK
      · rfl
      · conv => (lhs; whnf)
      · exact hwi.fixed (by decide)
    simp only [put_lit, put_none]
    try dsimp only [List.set_cons_succ, List.set_cons_zero]
    apply Oblig.cons
    case h =>
      intro S w1 hwi hSi hd hcl
      apply StepOk.intro
      intro K hK
      go_simp
      apply hK
      · rfl
      · conv => (lhs; whnf)
      · exact hwi.fixed (by decide)
    simp only [put_lit, put_none]
    try dsimp only [List.set_cons_succ, List.set_cons_zero]
    apply Oblig.cons
    case h =>
      intro S w1 hwi hSi hd hcl
      apply StepOk.intro
      intro K hK
      go_simp
      apply hK
      · rfl
      · conv => (lhs; whnf)
      · exact hwi.fixed (by decide)
    simp only [put_lit, put_none]
    try dsimp only [List.set_cons_succ, List.set_cons_zero]
    apply Oblig.cons
    case h =>
      intro S w1 hwi hSi hd hcl
      apply StepOk.intro
      intro K hK
      go_simp
      apply hK
      · rfl
      · conv => (lhs; whnf)
      · exact hwi.fixed (by decide)
    simp only [put_lit, put_none]
    try dsimp only [List.set_cons_succ, List.set_cons_zero]
    apply Oblig.cons
    case h =>
      intro S w1 hwi hSi hd hcl
      apply StepOk.intro
      intro K hK
      have hlast : S 12 = false := by
        cases h : S 12 with
        | false => rfl
        | true =>
          have h0 := (hcl 12 _ rfl h) ⟨6, .data⟩ (by simp) rfl
          have h1 := (hcl 6 _ rfl h0) ⟨4, .data⟩ (by simp) rfl
          rw [hSi] at h1
          cases h1
      have qyq := (hwi.1 hlast).1.k18
      go_simp
      apply hK
      · rfl
      · conv => (lhs; whnf)
      · exact hwi.fixed (by decide)
    simp only [put_lit, put_none]
    try dsimp only [List.set_cons_succ, List.set_cons_zero]
    apply Oblig.cons
    case h =>
      intro S w1 hwi hSi hd hcl
      apply StepOk.intro
      intro K hK
      go_simp
      apply hK
      · rfl
      · conv => (lhs; whnf)
      · exact hwi.fixed (by decide)
    simp only [put_lit, put_none]
    try dsimp only [List.set_cons_succ, List.set_cons_zero]
    apply Oblig.cons
    case h =>
      intro S w1 hwi hSi hd hcl
      apply StepOk.intro
      intro K hK
      have hlast : S 12 = false := by
        cases h : S 12 with
        | false => rfl
        | true => exact absurd ((hcl 12 _ rfl h) ⟨6, .data⟩ (by simp) rfl) (by rw [hSi]; decide)
      have hwp := hwi.1 hlast
      go_simp
      refine (HP.out _).mono ?_
      rintro e w2 ⟨rfl, hk⟩
      apply hK
      · rfl
      · conv => (lhs; whnf)
      · exact CEnd.mid hlast (by decide) ⟨hk.blk hwp.1 (fun h => h), hwp.2.1.keep hk (fun _ _ h => h), hwp.2.2.trans hk (fun _ _ h => h)⟩
    simp only [put_lit, put_none]
    try dsimp only [List.set_cons_succ, List.set_cons_zero]
    apply Oblig.cons
    case h =>
      intro S w1 hwi hSi hd hcl
      apply StepOk.intro
      intro K hK
      go_simp
      apply hK
      · rfl
      · conv => (lhs; whnf)
      · exact hwi.fixed (by decide)
    simp only [put_lit, put_none]
    try dsimp only [List.set_cons_succ, List.set_cons_zero]
    apply Oblig.cons
    case h =>
      intro S w1 hwi hSi hd hcl
      apply StepOk.intro
      intro K hK
      go_simp
      apply hK
      · rfl
      · conv => (lhs; whnf)
      · exact hwi.fixed (by decide)
    simp only [put_lit, put_none]
    try dsimp only [List.set_cons_succ, List.set_cons_zero]
    apply Oblig.cons
    case h =>
      intro S w1 hwi hSi hd hcl
      apply StepOk.intro
      intro K hK
      go_simp
      apply hK
      · rfl
      · conv => (lhs; whnf)
      · exact hwi.fixed (by decide)
    simp only [put_lit, put_none]
    try dsimp only [List.set_cons_succ, List.set_cons_zero]
    apply Oblig.cons
    case h =>
      intro S w1 hwi hSi hd hcl
      apply StepOk.intro
      intro K hK
      have hlast : S 12 = false := by
        cases h : S 12 with
        | false => rfl
        | true => exact absurd ((hcl 12 _ rfl h) ⟨10, .data⟩ (by simp) rfl) (by rw [hSi]; decide)
      have qyq := (hwi.1 hlast).1.k18
      go_simp
      apply hK
      · rfl
      · conv => (lhs; whnf)
      · exact hwi.fixed (by decide)
    simp only [put_lit, put_none]
    try dsimp only [List.set_cons_succ, List.set_cons_zero]
    apply Oblig.cons
    case h =>
      intro S w1 hwi hSi hd hcl
      apply StepOk.intro
      intro K hK
      go_simp
      apply hK
      · rfl
      · conv => (lhs; whnf)
      · exact hwi.fixed (by decide)
    simp only [put_lit, put_none]
    try dsimp only [List.set_cons_succ, List.set_cons_zero]
    apply Oblig.cons
    case h =>
      intro S w1 hwi hSi hd hcl
      apply StepOk.intro
      intro K hK
      have hwp := hwi.1 hSi
      go_simp
      refine (ref_Cas (wi : Int) saw (nv) hwp.2.1 (by omega) (by omega) hW hL).mono ?_
      rintro e w2 ⟨rfl, hpo⟩
      rw [Int.toNat_natCast] at *
      rw [hq] at *
      apply hK
      · rfl
      · conv => (lhs; whnf)
      · exact CEnd.done ⟨hpo.choose_spec.choose_spec.choose_spec.2.1.blk hwp.1 (r11_far hwp.2.1 hwp.1), hpo.before hwp.2.2⟩
    simp only [put_lit, put_none]
    try dsimp only [List.set_cons_succ, List.set_cons_zero]
    exact Oblig.nil
  case h0 =>
    exact ⟨fun _ => ⟨HY1.out.drew, HM1.out.keep ((Keep.refl (fun _ => False) _).drew) (fun _ _ h => h), HK1.out.drew⟩, (fun h => by cases h)⟩
  case hend =>
    intro S wx hwi hall
    obtain ⟨hyq, hpq⟩ := hwi.2 (hall 12 (by decide))
    obtain ⟨w3, hw3⟩ : ∃ w', w' = wx := ⟨_, rfl⟩
    rw [← hw3] at hyq hpq
    rw [← hw3]
    have HY3 := hid hyq
    have HP3 := hid hpq
    clear hyq hpq hwi hall hw3 qy1
    have qy3 := HY3.out.k18
    go_wp2_with fail
    have h := ((((((HY3.out.set 14 (i64 0)).set 15 (i64 (k : Int))).set 16 (.bool false)).set 17 (i64 0)).set 12 (i64 nv)).set 13 (.bool true))
    simp only [List.set_cons_succ, List.set_cons_zero] at h
    go_ret
    exact ⟨rfl, r11_out HP3.out HY3.out (by repeat (with_reducible first | exact Keep.refl _ _ | refine Keep.set ?_ _ _ (fun _ => rfl))) h⟩
set_option maxHeartbeats 2000000 in
theorem r11_take_no (wi j : Nat) (saw : Int) (hm : RefAt B w m A ca lv W L) (hy : Blk w y 91 [i64 tt, i64 sr, i64 g, i64 lm, i64 r, i64 (K : Int), .slice PA pn pc, .slice LA ln lc, i64 (s : Int), i64 (j : Int), .bool true, i64 saw, i64 0, .bool false, i64 0, i64 0, .bool false, i64 0]) (hj : j < K) (hK : K ≤ 16) (hs : s ≤ 1000000) (hi : wi < W.length) (hW : W.length ≤ 1000000) (hL : L.length ≤ 1000000000)
    (hq : (rd W wi == saw) = false) (hp : ∀ w', Calls Try.prog 16 #[.agg #[i64 tt, i64 sr, i64 g, i64 lm, i64 r, i64 (K : Int), .slice PA pn pc, .slice LA ln lc], i64 ((ck K s j : Nat) : Int)] w' (Ret (i64 (wi : Int)) w')) :
    Calls Try.prog 51 #[ptr y, ptr m] w fun e w' => e = .returned (.bool (decide (j + 1 = K))) ∧
      R11P B w m y A lv [i64 tt, i64 sr, i64 g, i64 lm, i64 r, i64 (K : Int), .slice PA pn pc, .slice LA ln lc, i64 (s : Int), i64 ((j + 1 : Nat) : Int), .bool false, i64 saw, i64 0, .bool (decide (j + 1 = K)), i64 (if j + 1 = K then 3 else 0), i64 0, .bool false, i64 0] (casW W wi saw (pNext6 saw 1)) (L ++ [⟨3, (wi : Nat), saw, pNext6 saw 1, false⟩]) w' := by
  have HT := hid (fun w0 => ref10_Turn saw w0)
  generalize pNext6 saw 1 = nv at *
  have HN := hid (fun (w2 : World) (hb : Blk w2 y 91 [i64 tt, i64 sr, i64 g, i64 lm, i64 r, i64 (K : Int), .slice PA pn pc, .slice LA ln lc, i64 (s : Int), i64 (j : Int), .bool true, i64 saw, i64 0, .bool false, i64 0, i64 0, .bool false, i64 0]) => r11_next j true saw hb (by omega))
  generalize decide (j + 1 = K) = bn at *
  generalize (if j + 1 = K then (3 : Int) else 0) = er at *
  generalize ((j + 1 : Nat) : Int) = nj at *
  have qy := hy.k18
  have HY := hid hy
  have HM := hid hm
  have HP := hid hp
  have HFY := hid (r11_far hm hy)
  have y0 : ¬ (K : Int) = 0 := by omega
  have y1 : IntKind.i64.wrap ((s : Int) + (j : Int)) = (s : Int) + (j : Int) := IntWalk.i64_in _ (by omega)
  have y2 : ((s : Int) + (j : Int)).tmod (K : Int) = ((ck K s j : Nat) : Int) := by
    rw [Int.tmod_eq_emod_of_nonneg (by omega)]; rfl
  generalize ck K s j = k at *
  clear hy hm hp
  go_enter Try.func51, Try.ntmps51
  go_wp2_with fail
  go_quiet (fail)
  have HK1 : Hid (Keep0 w (w.drewN nq)) := hid ((Keep.refl _ _).drewN nq)
  have HY1 := hid (HY.out.drewN nq)
  have HM1 := hid (HM.out.keep HK1.out (fun _ _ h => h))
  clear qy
  generalize w.drewN nq = w1 at *
  have qy1 := HY1.out.k18
  go_wp2_with fail
  refine (HT.out _).mono ?_
  rintro e w2 ⟨rfl, rfl⟩
  go_wp2_with fail
  apply wp_region_text (WI := CEnd 12 (fun wx => Blk wx y 91 [i64 tt, i64 sr, i64 g, i64 lm, i64 r, i64 (K : Int), .slice PA pn pc, .slice LA ln lc, i64 (s : Int), i64 (j : Int), .bool true, i64 saw, i64 0, .bool false, i64 0, i64 0, .bool false, i64 0] ∧ RefAt B wx m A ca lv W L ∧ Keep0 w wx) (fun wx => Blk wx y 91 [i64 tt, i64 sr, i64 g, i64 lm, i64 r, i64 (K : Int), .slice PA pn pc, .slice LA ln lc, i64 (s : Int), i64 (j : Int), .bool true, i64 saw, i64 0, .bool false, i64 0, i64 0, .bool false, i64 0] ∧ RefPost B w m A lv (casW W wi saw (nv)) (L ++ [⟨3, (wi : Nat), saw, nv, false⟩]) wx)) (by kernel_rfl) (by kernel_rfl)
  case hob =>
    apply Oblig.cons
    case h =>
      intro S w1 hwi hSi hd hcl
      apply StepOk.intro
      intro K hK
      go_simp
      apply hK
      · rfl
      · conv => (lhs; whnf)
      · exact hwi.fixed (by decide)
    simp only [put_lit, put_none]
    try dsimp only [List.set_cons_succ, List.set_cons_zero]
    apply Oblig.cons
    case h =>
      intro S w1 hwi hSi hd hcl
      apply StepOk.intro
      intro K hK
      go_simp
      apply hK
      · rfl
      · conv => (lhs; whnf)
      · exact hwi.fixed (by decide)
    simp only [put_lit, put_none]
    try dsimp only [List.set_cons_succ, List.set_cons_zero]
    apply Oblig.cons
    case h =>
      intro S w1 hwi hSi hd hcl
      apply StepOk.intro
      intro K hK
      go_simp
      apply hK
      · rfl
      · conv => (lhs; whnf)
      · exact hwi.fixed (by decide)
    simp only [put_lit, put_none]
    try dsimp only [List.set_cons_succ, List.set_cons_zero]
    apply Oblig.cons
    case h =>
      intro S w1 hwi hSi hd hcl
      apply StepOk.intro
      intro K hK
      go_simp
      apply hK
      · rfl
      · conv => (lhs; whnf)
      · exact hwi.fixed (by decide)
    simp only [put_lit, put_none]
    try dsimp only [List.set_cons_succ, List.set_cons_zero]
    apply Oblig.cons
    case h =>
      intro S w1 hwi hSi hd hcl
      apply StepOk.intro
      intro K hK
      have hlast : S 12 = false := by
        cases h : S 12 with
        | false => rfl
        | true =>
          have h0 := (hcl 12 _ rfl h) ⟨6, .data⟩ (by simp) rfl
          have h1 := (hcl 6 _ rfl h0) ⟨4, .data⟩ (by simp) rfl
          rw [hSi] at h1
          cases h1
      have qyq := (hwi.1 hlast).1.k18
      go_simp
      apply hK
      · rfl
      · conv => (lhs; whnf)
      · exact hwi.fixed (by decide)
    simp only [put_lit, put_none]
    try dsimp only [List.set_cons_succ, List.set_cons_zero]
    apply Oblig.cons
    case h =>
      intro S w1 hwi hSi hd hcl
      apply StepOk.intro
      intro K hK
      go_simp
      apply hK
      · rfl
      · conv => (lhs; whnf)
      · exact hwi.fixed (by decide)
    simp only [put_lit, put_none]
    try dsimp only [List.set_cons_succ, List.set_cons_zero]
    apply Oblig.cons
    case h =>
      intro S w1 hwi hSi hd hcl
      apply StepOk.intro
      intro K hK
      have hlast : S 12 = false := by
        cases h : S 12 with
        | false => rfl
        | true => exact absurd ((hcl 12 _ rfl h) ⟨6, .data⟩ (by simp) rfl) (by rw [hSi]; decide)
      have hwp := hwi.1 hlast
      go_simp
      refine (HP.out _).mono ?_
      rintro e w2 ⟨rfl, hk⟩
      apply hK
      · rfl
      · conv => (lhs; whnf)
      · exact CEnd.mid hlast (by decide) ⟨hk.blk hwp.1 (fun h => h), hwp.2.1.keep hk (fun _ _ h => h), hwp.2.2.trans hk (fun _ _ h => h)⟩
    simp only [put_lit, put_none]
    try dsimp only [List.set_cons_succ, List.set_cons_zero]
    apply Oblig.cons
    case h =>
      intro S w1 hwi hSi hd hcl
      apply StepOk.intro
      intro K hK
      go_simp
      apply hK
      · rfl
      · conv => (lhs; whnf)
      · exact hwi.fixed (by decide)
    simp only [put_lit, put_none]
    try dsimp only [List.set_cons_succ, List.set_cons_zero]
    apply Oblig.cons
    case h =>
      intro S w1 hwi hSi hd hcl
      apply StepOk.intro
      intro K hK
      go_simp
      apply hK
      · rfl
      · conv => (lhs; whnf)
      · exact hwi.fixed (by decide)
    simp only [put_lit, put_none]
    try dsimp only [List.set_cons_succ, List.set_cons_zero]
    apply Oblig.cons
    case h =>
      intro S w1 hwi hSi hd hcl
      apply StepOk.intro
      intro K hK
      go_simp
      apply hK
      · rfl
      · conv => (lhs; whnf)
      · exact hwi.fixed (by decide)
    simp only [put_lit, put_none]
    try dsimp only [List.set_cons_succ, List.set_cons_zero]
    apply Oblig.cons
    case h =>
      intro S w1 hwi hSi hd hcl
      apply StepOk.intro
      intro K hK
      have hlast : S 12 = false := by
        cases h : S 12 with
        | false => rfl
        | true => exact absurd ((hcl 12 _ rfl h) ⟨10, .data⟩ (by simp) rfl) (by rw [hSi]; decide)
      have qyq := (hwi.1 hlast).1.k18
      go_simp
      apply hK
      · rfl
      · conv => (lhs; whnf)
      · exact hwi.fixed (by decide)
    simp only [put_lit, put_none]
    try dsimp only [List.set_cons_succ, List.set_cons_zero]
    apply Oblig.cons
    case h =>
      intro S w1 hwi hSi hd hcl
      apply StepOk.intro
      intro K hK
      go_simp
      apply hK
      · rfl
      · conv => (lhs; whnf)
      · exact hwi.fixed (by decide)
    simp only [put_lit, put_none]
    try dsimp only [List.set_cons_succ, List.set_cons_zero]
    apply Oblig.cons
    case h =>
      intro S w1 hwi hSi hd hcl
      apply StepOk.intro
      intro K hK
      have hwp := hwi.1 hSi
      go_simp
      refine (ref_Cas (wi : Int) saw (nv) hwp.2.1 (by omega) (by omega) hW hL).mono ?_
      rintro e w2 ⟨rfl, hpo⟩
      rw [Int.toNat_natCast] at *
      rw [hq] at *
      apply hK
      · rfl
      · conv => (lhs; whnf)
      · exact CEnd.done ⟨hpo.choose_spec.choose_spec.choose_spec.2.1.blk hwp.1 (r11_far hwp.2.1 hwp.1), hpo.before hwp.2.2⟩
    simp only [put_lit, put_none]
    try dsimp only [List.set_cons_succ, List.set_cons_zero]
    exact Oblig.nil
  case h0 =>
    exact ⟨fun _ => ⟨HY1.out.drew, HM1.out.keep ((Keep.refl (fun _ => False) _).drew) (fun _ _ h => h), HK1.out.drew⟩, (fun h => by cases h)⟩
  case hend =>
    intro S wx hwi hall
    obtain ⟨hyq, hpq⟩ := hwi.2 (hall 12 (by decide))
    obtain ⟨w3, hw3⟩ : ∃ w', w' = wx := ⟨_, rfl⟩
    rw [← hw3] at hyq hpq
    rw [← hw3]
    have HY3 := hid hyq
    have HP3 := hid hpq
    clear hyq hpq hwi hall hw3 qy1
    have qy3 := HY3.out.k18
    go_wp2_with fail
    refine (HN.out _ HY3.out).mono ?_
    rintro e w5 ⟨rfl, hk, hb⟩
    have HK5 := hid hk
    have HY5 := hid hb
    have qy5 := hb.k18
    clear hk hb qy3
    go_wp2_with fail
    go_ret
    exact ⟨rfl, r11_out HP3.out HY3.out HK5.out HY5.out⟩
end
end Go.Proofs.Ytjloccnbcgkmgaa
