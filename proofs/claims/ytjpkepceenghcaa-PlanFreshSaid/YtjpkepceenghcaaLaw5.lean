/- breadlinelaw04.Base, Great; breadlinelaw05.head, Good. -/
import Derived.Test.YtjpkepceenghcaaFreshB
import Derived.Test.YtjpkepceenghcaaConf
namespace Go.Proofs.Ytjpkepceenghcaa
open Go.RowKit
set_option linter.unusedVariables false
set_option linter.unusedSimpArgs false

set_option maxHeartbeats 1000000 in
theorem law_Base (w : World) : Calls Try.prog 48 #[] w fun e w' => ∃ pb lb, e = .returned (.agg #[i64 2, i64 2, i64 4, i64 4, i64 2, i64 3, .slice (some ⟨pb, 0, none⟩) 4 4, .slice (some ⟨lb, 0, none⟩) 4 4]) ∧
    Keep0 w w' ∧ Blk w' pb 3 [i64 (-1), i64 0, i64 1, i64 0] ∧ Blk w' lb 3 [i64 20, i64 10, i64 8, i64 5] := by
  go_enter Try.func48, Try.ntmps48
  go_wp2
  have e : ∀ w', w' = ((w.alloc (.cells #[i64 2, i64 2, i64 4, i64 4, i64 2, i64 3, .slice (some ⟨w.heap.size + 1, 0, none⟩) 4 4, .slice (some ⟨w.heap.size + 1 + 1, 0, none⟩) 4 4] 24)).alloc (.cells #[i64 (-1), i64 0, i64 1, i64 0] 3)).alloc (.cells #[i64 20, i64 10, i64 8, i64 5] 3) →
      Keep0 w w' ∧ Blk w' (w.heap.size + 1) 3 [i64 (-1), i64 0, i64 1, i64 0] ∧ Blk w' (w.heap.size + 1 + 1) 3 [i64 20, i64 10, i64 8, i64 5] := by
    rintro w' rfl
    exact ⟨(((Keep.refl _ _).alloc _).alloc _).alloc _, (Blk.made (by simp) rfl).alloc _, Blk.made (by simp) rfl⟩
  exact bodyPost_ret (v := .agg #[i64 2, i64 2, i64 4, i64 4, i64 2, i64 3, .slice (some ⟨w.heap.size + 1, 0, none⟩) 4 4, .slice (some ⟨w.heap.size + 1 + 1, 0, none⟩) 4 4]) (by simp [results, Try.results48, go_sem]) rfl ⟨_, _, rfl, e _ rfl⟩

def greatB (pn ln : Nat) : Bool := decide (100 < (pn : Int)) || decide (100 < (ln : Int))
set_option maxHeartbeats 400000 in
theorem law_Great (t s g l r k : Int) (PA : Option Addr) (pn pc : Nat) (LA : Option Addr) (ln lc : Nat) (w : World) (h1 : pn ≤ 9223372036854775807) (h2 : ln ≤ 9223372036854775807) :
    Calls Try.prog 49 #[.agg #[i64 t, i64 s, i64 g, i64 l, i64 r, i64 k, .slice PA pn pc, .slice LA ln lc]] w (Ret (.bool (greatB pn ln)) w) := by
  go_enter Try.func49, Try.ntmps49
  go_wp2
  all_goals
    go_ret
    refine ⟨?_, (Keep.refl _ _).alloc _⟩
    simp_all [greatB]

def goodB (t s g l r k : Int) (P L : List Int) : Bool := !greatB P.length L.length && rightB t s g l r k P L
/-- what a right setting's numbers are -/
structure Right (t s g l r k : Int) (P L : List Int) : Prop where
  t : 1 ≤ t ∧ t ≤ 8
  s : s = 1 ∨ s = 2 ∨ s = 4 ∨ s = 8
  g : 1 ≤ g ∧ g ≤ 1048576
  l : 0 ≤ l ∧ l ≤ 1048576
  r : 1 ≤ r ∧ r ≤ 8
  k : 1 ≤ k ∧ k ≤ 16
  p : 1 ≤ P.length ∧ P.length ≤ 12
  len : L.length = P.length
  lim : ∀ i, i < P.length → 0 ≤ rd L i ∧ rd L i ≤ 1099511627776
  root : rd P 0 = -1
  par : ∀ i, 0 < i → i < P.length → 0 ≤ rd P i ∧ rd P i ≤ i - 1
theorem restB_all {P L : List Int} : ∀ d i, restB P L d i = true → ∀ j, i ≤ j → j < i + d → inB (rd L j) 0 1099511627776 = true ∧ (if j = 0 then rd P j = -1 else inB (rd P j) 0 (j - 1) = true) := by
  intro d
  induction d with
  | zero => intro i _ j h1 h2; omega
  | succ d ih =>
    intro i h j h1 h2
    simp only [restB, Bool.and_eq_true] at h
    by_cases e : j = i
    · subst e
      refine ⟨h.1.1, ?_⟩
      have := h.1.2
      split at this
      · rename_i h0; rw [if_pos h0]; simpa using this
      · rename_i h0; rw [if_neg h0]; exact this
    · exact ih _ h.2 j (by omega) (by omega)
theorem Right.of {t s g l r k : Int} {P L : List Int} (h : goodB t s g l r k P L = true) : Right t s g l r k P L := by
  simp only [goodB, rightB, headB, Bool.and_eq_true] at h
  obtain ⟨_, ⟨⟨⟨⟨⟨⟨⟨i1, i2⟩, i3⟩, i4⟩, i5⟩, i6⟩, i7⟩, i8⟩, i9⟩ := h
  have hr := restB_all _ _ i9
  have hp := inB_iff.1 i7
  have hl : L.length = P.length := by simp at i8; omega
  refine ⟨inB_iff.1 i1, stripes_cases i2, inB_iff.1 i3, inB_iff.1 i4, inB_iff.1 i5, inB_iff.1 i6, by omega, hl, fun i hi => inB_iff.1 (hr i (Nat.zero_le _) (by omega)).1, ?_, fun i h0 hi => ?_⟩
  · have := (hr 0 (Nat.le_refl _) (by omega)).2
    simpa using this
  · have := (hr i (Nat.zero_le _) (by omega)).2
    rw [if_neg (by omega)] at this
    exact inB_iff.1 this
theorem Right.sb {t s g l r k : Int} {P L : List Int} (h : Right t s g l r k P L) : 1 ≤ s ∧ s ≤ 8 := by have := h.s; omega

set_option maxHeartbeats 400000 in
theorem law_Good (t s g l r k : Int) (PA : Option Addr) (P : List Int) (pc : Nat) (LA : Option Addr) (L : List Int) (lc : Nat) (w : World) (hP : IntsAt w PA P) (hL : IntsAt w LA L) (h1 : P.length ≤ 9223372036854775807) (h2 : L.length ≤ 9223372036854775807) :
    Calls Try.prog 16 #[.agg #[i64 t, i64 s, i64 g, i64 l, i64 r, i64 k, .slice PA P.length pc, .slice LA L.length lc]] w (Ret (.bool (goodB t s g l r k P L)) w) := by
  cases hg : greatB P.length L.length
  · have hb : P.length ≤ 100 ∧ L.length ≤ 100 := by simp [greatB] at hg; omega
    have e : goodB t s g l r k P L = rightB t s g l r k P L := by simp [goodB, hg]
    rw [e]
    have HR : ∀ w', Keep0 w w' → Calls Try.prog 23 #[.agg #[i64 t, i64 s, i64 g, i64 l, i64 r, i64 k, .slice PA P.length pc, .slice LA L.length lc]] w' (Ret (.bool (rightB t s g l r k P L)) w') := by
      intro w' hk
      have tr : ∀ A l, IntsAt w A l → IntsAt w' A l := by
        rintro A l (h | ⟨b, o, e1, h⟩)
        · exact Or.inl h
        · refine Or.inr ⟨b, o, e1, fun i hi => ?_⟩
          rw [cell_old hk (World.block_lt_of_cell? _ _ (h i hi)) (fun x => x)]
          exact h i hi
      cases hh : headB t s g l r k P.length L.length
      · exact ref_Right_no _ _ _ _ _ _ _ _ _ _ _ _ _ (by omega) (by omega) hh
      · exact ref_Right_yes _ _ _ _ _ _ _ _ _ _ _ _ _ (tr _ _ hP) (tr _ _ hL) (by omega) (by omega) hh
    have HG := hid hg
    have HRR := hid HR
    clear hg e HR hP hL
    go_enter Try.func16, Try.ntmps16
    go_wp2_with fail
    refine (law_Great _ _ _ _ _ _ _ _ _ _ _ _ _ h1 h2).mono ?_
    rintro e w1 ⟨rfl, hk⟩
    rw [HG.out]
    have HK1 : Hid (Keep0 w w1) := hid (Keep0.step (by repeat (with_reducible first | exact Keep.refl _ _ | apply Keep.alloc | apply Keep.drewN | apply Keep.drew)) hk)
    have HB := (hk.blk (Blk.made (b := w.heap.size) (w := w) (t := 24) (cs := [i64 t, i64 s, i64 g, i64 l, i64 r, i64 k, .slice PA P.length pc, .slice LA L.length lc]) rfl rfl) (fun h => h)).k8
    clear hk
    go_wp2_with fail
    refine (HRR.out _ HK1.out).mono ?_
    rintro e w2 ⟨rfl, hk⟩
    have HK2 : Hid (Keep0 w w2) := hid (Keep0.step HK1.out hk)
    clear hk
    go_wp2_with fail
    go_ret
    exact ⟨rfl, HK2.out⟩
  · have e : goodB t s g l r k P L = false := by simp [goodB, hg]
    rw [e]
    have HG := hid hg
    clear hg e hP hL
    go_enter Try.func16, Try.ntmps16
    go_wp2_with fail
    refine (law_Great _ _ _ _ _ _ _ _ _ _ _ _ _ h1 h2).mono ?_
    rintro e w1 ⟨rfl, hk⟩
    rw [HG.out]
    have HK1 : Hid (Keep0 w w1) := hid (Keep0.step (by repeat (with_reducible first | exact Keep.refl _ _ | apply Keep.alloc | apply Keep.drewN | apply Keep.drew)) hk)
    clear hk
    go_wp2_with fail
    go_ret
    exact ⟨rfl, HK1.out⟩

set_option maxHeartbeats 2000000 in
set_option maxRecDepth 100000 in
theorem law5_head (w : World) : Calls Try.prog 15 #[] w (Ret (.bool true) w) := by
  go_enter Try.func15, Try.ntmps15
  go_wp2_with fail
  refine (law_Base _).mono ?_
  rintro e w1 ⟨pb, lb, rfl, hk, hpb, hlb⟩
  have HK1 : Hid (Keep0 w w1) := hid hk
  have HPB := hid hpb
  have HLB := hid hlb
  clear hk hpb hlb
  go_wp2_with fail
  have hl4 : ∀ i, i < 4 → w1.cell? ⟨lb, 0 + i, none⟩ = some (i64 (rd [20, 10, 8, 5] i)) := by
    intro i hi
    rw [Nat.zero_add, HLB.out.cell i]
    match i, hi with
    | 0, _ => rfl
    | 1, _ => rfl
    | 2, _ => rfl
    | 3, _ => rfl
  refine (plan_Fresh 0 _ lb 0 2 2 4 4 2 3 (some ⟨pb, 0, none⟩) 4 4 4 4 [20, 10, 8, 5] (Nat.zero_le _) (by omega) (by omega) (by omega) (by omega) (by omega) (by omega) (fun i hi => by rw [World.cell?_alloc_lt _ _ _ (World.block_lt_of_cell? _ _ (hl4 i hi))]; exact hl4 i hi) (by have := HLB.out.lt; simp; omega)).mono ?_
  rintro e w2 ⟨m, a, lv, rfl, hm, hk, hzm, hza⟩
  have HK2 : Hid (Keep0 w w2) := hid (Keep0.step (by repeat (with_reducible first | exact Keep.refl _ _ | exact HK1.out | apply Keep.alloc | apply Keep.drewN | apply Keep.drew)) hk)
  have CB := hid (hk.blk (Blk.made (b := w1.heap.size) (w := w1) (t := 24) (cs := [i64 2, i64 2, i64 4, i64 4, i64 2, i64 3, .slice (some ⟨pb, 0, none⟩) 4 4, .slice (some ⟨lb, 0, none⟩) 4 4]) rfl rfl) (fun h => h))
  have HM := hid hm
  clear hm hk hl4 HPB HLB HK1 hzm hza
  go_wp2_with fail
  refine (mem_Words (HM.out) (by decide)).mono ?_
  rintro e w3 ⟨g, c', rfl, hi, hk, hz⟩
  have HK3 : Hid (Keep0 w w3) := hid (Keep0.step HK2.out hk)
  have CB3 := hid (hk.blk CB.out (fun h => h))
  have HW := hid hi
  have hlen : (freshW 2 3 4 [20, 10, 8, 5]).length = 46 := by decide
  rw [hlen]
  clear hi hk CB HK2 HM hz hlen
  have CB := CB3
  clear CB3
  have qCB := CB.out.k8
  go_wp2_with fail
  refine (plan_Limit 2 2 4 4 2 3 (some ⟨pb, 0, none⟩) 4 4 (some ⟨lb, 0, none⟩) 4 4 1 _ (by omega) (by omega) (by omega) (by omega)).mono ?_
  rintro e w4 ⟨rfl, hk⟩
  have HK4 : Hid (Keep0 w w4) := hid (Keep0.step (by repeat (with_reducible first | exact Keep.refl _ _ | exact HK3.out | apply Keep.alloc | apply Keep.drewN | apply Keep.drew)) hk)
  have TCB := hk.blk (show Blk _ _ _ _ from by repeat (with_reducible first | exact CB.out | apply Blk.alloc | apply Blk.drewN | apply Blk.drew)) (fun h => h)
  have THW := hk.ints (show Ints _ _ _ from by repeat (with_reducible first | exact HW.out | apply Ints.alloc | apply Ints.drewN | apply Ints.drew)) (fun h => h)
  clear hk CB HW HK3
  have CB := hid TCB; clear TCB
  have HW := hid THW; clear THW
  have qCB := CB.out.k8
  go_wp2_with fail
  refine (plan_Avail 2 2 4 4 2 3 (some ⟨pb, 0, none⟩) 4 4 (some ⟨lb, 0, none⟩) 4 4 1 _ (by omega) (by omega) (by omega) (by omega)).mono ?_
  rintro e w5 ⟨rfl, hk⟩
  have HK5 : Hid (Keep0 w w5) := hid (Keep0.step (by repeat (with_reducible first | exact Keep.refl _ _ | exact HK4.out | apply Keep.alloc | apply Keep.drewN | apply Keep.drew)) hk)
  have TCB := hk.blk (show Blk _ _ _ _ from by repeat (with_reducible first | exact CB.out | apply Blk.alloc | apply Blk.drewN | apply Blk.drew)) (fun h => h)
  have THW := hk.ints (show Ints _ _ _ from by repeat (with_reducible first | exact HW.out | apply Ints.alloc | apply Ints.drewN | apply Ints.drew)) (fun h => h)
  clear hk CB HW HK4
  have CB := hid TCB; clear TCB
  have HW := hid THW; clear THW
  have qCB := CB.out.k8
  go_wp2_with fail
  refine (plan_Lease 2 2 4 4 2 3 (some ⟨pb, 0, none⟩) 4 4 (some ⟨lb, 0, none⟩) 4 4 1 1 _ (by omega) (by omega) (by omega) (by omega) (by omega) (by omega)).mono ?_
  rintro e w6 ⟨rfl, hk⟩
  have HK6 : Hid (Keep0 w w6) := hid (Keep0.step (by repeat (with_reducible first | exact Keep.refl _ _ | exact HK5.out | apply Keep.alloc | apply Keep.drewN | apply Keep.drew)) hk)
  have TCB := hk.blk (show Blk _ _ _ _ from by repeat (with_reducible first | exact CB.out | apply Blk.alloc | apply Blk.drewN | apply Blk.drew)) (fun h => h)
  have THW := hk.ints (show Ints _ _ _ from by repeat (with_reducible first | exact HW.out | apply Ints.alloc | apply Ints.drewN | apply Ints.drew)) (fun h => h)
  clear hk CB HW HK5
  have CB := hid TCB; clear TCB
  have HW := hid THW; clear THW
  have qCB := CB.out.k8
  go_wp2_with fail
  refine (plan_Counter 2 2 4 4 2 3 (some ⟨pb, 0, none⟩) 4 4 (some ⟨lb, 0, none⟩) 4 4 1 _ (by omega) (by omega) (by omega) (by omega)).mono ?_
  rintro e w7 ⟨rfl, hk⟩
  have HK7 : Hid (Keep0 w w7) := hid (Keep0.step (by repeat (with_reducible first | exact Keep.refl _ _ | exact HK6.out | apply Keep.alloc | apply Keep.drewN | apply Keep.drew)) hk)
  have TCB := hk.blk (show Blk _ _ _ _ from by repeat (with_reducible first | exact CB.out | apply Blk.alloc | apply Blk.drewN | apply Blk.drew)) (fun h => h)
  have THW := hk.ints (show Ints _ _ _ from by repeat (with_reducible first | exact HW.out | apply Ints.alloc | apply Ints.drewN | apply Ints.drew)) (fun h => h)
  clear hk CB HW HK6
  have CB := hid TCB; clear TCB
  have HW := hid THW; clear THW
  have qCB := CB.out.k8
  go_wp2_with fail
  refine (plan_Ticket 2 2 4 4 2 3 (some ⟨pb, 0, none⟩) 4 4 (some ⟨lb, 0, none⟩) 4 4 2 _ (by omega) (by omega) (by omega) (by omega) (by omega)).mono ?_
  rintro e w8 ⟨rfl, hk⟩
  have HK8 : Hid (Keep0 w w8) := hid (Keep0.step (by repeat (with_reducible first | exact Keep.refl _ _ | exact HK7.out | apply Keep.alloc | apply Keep.drewN | apply Keep.drew)) hk)
  have TCB := hk.blk (show Blk _ _ _ _ from by repeat (with_reducible first | exact CB.out | apply Blk.alloc | apply Blk.drewN | apply Blk.drew)) (fun h => h)
  have THW := hk.ints (show Ints _ _ _ from by repeat (with_reducible first | exact HW.out | apply Ints.alloc | apply Ints.drewN | apply Ints.drew)) (fun h => h)
  clear hk CB HW HK7
  have CB := hid TCB; clear TCB
  have HW := hid THW; clear THW
  have qCB := CB.out.k8
  go_wp2_with fail
  refine (plan_Size 2 2 4 4 2 3 (some ⟨pb, 0, none⟩) 4 4 (some ⟨lb, 0, none⟩) 4 4 _ (by omega) (by omega) (by omega) (by omega) (by omega)).mono ?_
  rintro e w9 ⟨rfl, hk⟩
  have HK9 : Hid (Keep0 w w9) := hid (Keep0.step (by repeat (with_reducible first | exact Keep.refl _ _ | exact HK8.out | apply Keep.alloc | apply Keep.drewN | apply Keep.drew)) hk)
  have TCB := hk.blk (show Blk _ _ _ _ from by repeat (with_reducible first | exact CB.out | apply Blk.alloc | apply Blk.drewN | apply Blk.drew)) (fun h => h)
  have THW := hk.ints (show Ints _ _ _ from by repeat (with_reducible first | exact HW.out | apply Ints.alloc | apply Ints.drewN | apply Ints.drew)) (fun h => h)
  clear hk CB HW HK8
  have CB := hid TCB; clear TCB
  have HW := hid THW; clear THW
  have qCB := CB.out.k8
  have hr : ∀ i x, i < (freshW 2 3 4 [20, 10, 8, 5]).length → rd (freshW 2 3 4 [20, 10, 8, 5]) i = x → w9.cell? ⟨g, i, none⟩ = some (i64 x) := fun i x h1 h2 => h2 ▸ HW.out.cell i h1
  have r0 := hr 0 20 (by decide) (by decide)
  have r1 := hr 1 20 (by decide) (by decide)
  have r7 := hr 7 1 (by decide) (by decide)
  have r4 := hr 4 0 (by decide) (by decide)
  have r45 := hr 45 0 (by decide) (by decide)
  clear hr
  go_wp2
  go_ret
  exact ⟨rfl, HK9.out⟩
end Go.Proofs.Ytjpkepceenghcaa
