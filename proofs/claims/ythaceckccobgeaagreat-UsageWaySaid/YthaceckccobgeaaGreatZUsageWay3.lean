/- Contracts and plain laws for UsageWay, part 3: what the walk of the law leans on. -/
import Derived.Deep.QuietTactic
import Derived.BigQuiet
import Derived.Deep.LoopGhost
import Derived.Test.YthaceckccobgeaaGreatZUsageWay1
import Derived.Test.YthaceckccobgeaaGreatZUsageWay2
namespace Go.Proofs.YthaceckccobgeaaGreat
open Go.RowKit
set_option linter.unusedVariables false
set_option linter.unusedSimpArgs false
structure Pk where
 at_ : Int
 w : Int
 x : Int
section
variable {τ : Type}
def pokeAll (pk : τ → Nat → Int → τ) (len : Nat) (n : Int) (l : List Pk) (t : τ) : τ :=
 l.foldl (fun t p => if p.at_ = n ∧ 0 ≤ p.w ∧ p.w < (len : Int) then pk t p.w.toNat p.x else t) t
def playF (stp : τ → τ × Bool) (pk : τ → Nat → Int → τ) (len : Nat) (l : List Pk) : Nat → Nat → τ → τ × Nat × Bool
 | 0, n, t => (t, n, false)
 | k + 1, n, t =>
  let r := stp (pokeAll pk len n l t)
  if r.2 then (r.1, n + 1, true) else playF stp pk len l k (n + 1) r.1
theorem pokeAll_snoc (pk : τ → Nat → Int → τ) (len : Nat) (n : Int) (l : List Pk) (j : Nat) (hjl : j < l.length) (t : τ) :
 pokeAll pk len n (l.take (j + 1)) t = if l[j].at_ = n ∧ 0 ≤ l[j].w ∧ l[j].w < (len : Int) then pk (pokeAll pk len n (l.take j) t) l[j].w.toNat l[j].x else pokeAll pk len n (l.take j) t := by
 unfold pokeAll
 rw [List.take_succ_eq_append_getElem hjl, List.foldl_append]
 rfl
set_option maxHeartbeats 1000000 in
set_option maxRecDepth 100000 in
theorem mem_Play (Sys : Nat → World → τ → Prop) (stp : τ → τ × Bool) (pk : τ → Nat → Int → τ) (len : Nat) (F : FuncId) (xT : TypeId) (x : Nat) (m : Nat) (S0 : Nat → Prop) (N : Nat) (l : List Pk) (A0 : Option Addr) (b o c : Nat) (most : Nat) (w : World) (t : τ)
 (hmost : most ≤ 1000000) (hl : l.length ≤ 1000000) (hN : N ≤ w.heap.size) (hA0 : 0 < l.length → A0 = some ⟨b, o, none⟩ ∧ b < N ∧ ¬ S0 b)
 (hcells : ∀ i (h : i < l.length), w.cell? ⟨b, o + i * 3, none⟩ = some (i64 l[i].at_) ∧ w.cell? ⟨b, o + i * 3 + 1, none⟩ = some (i64 l[i].w) ∧ w.cell? ⟨b, o + i * 3 + 2, none⟩ = some (i64 l[i].x))
 (hmem : ∀ n w t, Sys n w t → ∃ a lv, Blk w m 106 [.slice (some ⟨a, 0, none⟩) len len, lv])
 (hkeep : ∀ n w w' t, Sys n w t → Keep (fun _ => False) w w' → Sys n w' t)
 (hpoke : ∀ n w t (i x : Int), (∃ p ∈ l, p.w = i ∧ p.x = x) → Sys n w t → 0 ≤ i → i < len → Calls Tryz.prog 74 #[ptr m, i64 i, i64 x] w fun e w' => e = .returned (.tuple #[]) ∧ Sys n w' (pk t i.toNat x) ∧ Keep (fun k => S0 k ∨ N ≤ k) w w')
 (hstep : ∀ n w t, n < most → Sys n w t → Calls Tryz.prog F #[ptr x, ptr m] w fun e w' => e = .returned (.bool (stp t).2) ∧ Sys (n + 1) w' (stp t).1 ∧ Keep (fun k => S0 k ∨ N ≤ k) w w')
 (hmeth : ∀ w, (method 263 xT (ptr x) "Step").run Tryz.prog w = .ok (F, ptr x) w)
 (hF : ∀ (args : Array Value) (w : World), (callFunc F args).run Tryz.prog w = .ok (.enter F args) w)
 (hs : Sys 0 w t) :
 Calls Tryz.prog 28 #[ptr m, .iface xT (ptr x), .slice A0 l.length c, i64 most] w fun e w' =>
  e = .returned (.tuple #[i64 (playF stp pk len l most 0 t).2.1, .bool (playF stp pk len l most 0 t).2.2]) ∧ (∃ n, Sys n w' (playF stp pk len l most 0 t).1) ∧ Keep (fun k => S0 k ∨ N ≤ k) w w' := by
 go_enter Tryz.func28, Tryz.ntmps28
 go_wp2_with fail
 go_loopw [10] (fun v wr => ∃ n : Nat, n ≤ most ∧ v = .int .i64 n ∧ ∃ t', Sys n wr t' ∧ playF stp pk len l (most - n) n t' = playF stp pk len l most 0 t ∧ Keep (fun k => S0 k ∨ N ≤ k) w wr) (fun v _ => most - (intOf v).toNat)
 case atStart => exact ⟨0, Nat.zero_le _, rfl, t, hs, rfl, Keep.refl _ _⟩
 case round =>
  obtain ⟨n, hn, rfl, t', hs', hpl, hk⟩ := hrel
  have HPL := hid hpl
  have HS' := hid hs'
  have HK := hid hk
  clear hpl hs' hk hs
  by_cases hlt : n < most
  · go_wp2_with fail
    obtain ⟨wo, rfl⟩ : ∃ wo : World, wo = wr := ⟨_, rfl⟩
    go_loopw [20] (fun v wi => ∃ j : Nat, j ≤ l.length ∧ v = .int .i64 j ∧ Sys n wi (pokeAll pk len n (l.take j) t') ∧ Keep (fun k => S0 k ∨ N ≤ k) wo wi) (fun v _ => l.length - (intOf v).toNat)
    case atStart => exact ⟨0, Nat.zero_le _, rfl, HS'.out, Keep.refl _ _⟩
    case round =>
     obtain ⟨j, hj, rfl, hsj, hkj⟩ := hrel
     have HSJ := hid hsj
     have HKJ := hid hkj
     clear hsj hkj
     by_cases hjl : j < l.length
     · obtain ⟨rfl, hb, hbS⟩ := hA0 (by omega)
       have hbw : b < wo.heap.size := Nat.lt_of_lt_of_le hb (Nat.le_trans hN HK.out.size)
       have hbS' : ¬ (S0 b ∨ N ≤ b) := fun h => h.elim hbS (by omega)
       obtain ⟨a1, a2, a3⟩ := hcells j hjl
       rw [← cell_old HK.out (Nat.lt_of_lt_of_le hb hN) hbS', ← cell_old HKJ.out hbw hbS'] at a1 a2 a3
       have hnext : pokeAll pk len n (l.take (j + 1)) t' = if l[j].at_ = n ∧ 0 ≤ l[j].w ∧ l[j].w < (len : Int) then pk (pokeAll pk len n (l.take j) t') l[j].w.toNat l[j].x else pokeAll pk len n (l.take j) t' := by
        exact pokeAll_snoc pk len n l j hjl t'
       have hinl : ∃ p ∈ l, p.w = l[j].w ∧ p.x = l[j].x := ⟨l[j], List.getElem_mem hjl, rfl, rfl⟩
       have HIN := hid hinl
       clear hinl
       generalize l[j].at_ = pa at *
       generalize l[j].w = pw at *
       generalize l[j].x = px at *
       have HN := hid hnext
       clear hnext
       obtain ⟨ma, mlv, hmb⟩ := hmem _ _ _ HSJ.out
       have hms := hmb.k2
       have hbz := lts (Nat.lt_of_lt_of_le hbw HKJ.out.size)
       clear hmb
       by_cases hA : pa = n
       · by_cases hB : 0 ≤ pw
         · by_cases hC : pw < (len : Int)
           · have g1 : (pa == (n : Int)) = true := by simpa using hA
             have g2 : decide (0 ≤ pw) = true := by simpa using hB
             have g3 : decide (pw < (len : Int)) = true := by simpa using hC
             have HA := hid hA
             clear hA
             go_wp2_with fail
             go_quiet (fail)
             go_wp2_with fail
             have hk1 : Keep (fun _ => False) wr ((wr.alloc (.cells #[.int .i64 pa, .int .i64 pw, .int .i64 px] 104)).drewN nq) := ((Keep.refl _ wr).alloc _).drewN _
             refine (hpoke n _ _ pw px HIN.out (hkeep _ _ _ _ HSJ.out hk1) hB hC).mono ?_
             rintro e w1 ⟨rfl, hs1, hk2⟩
             have HS1 := hid hs1
             have HK1 := hid (Keep.trans (hk1.mono (T := fun k => S0 k ∨ N ≤ k) (fun _ h => h.elim)) hk2 (fun _ _ h => h))
             clear hs1 hk1 hk2
             go_wp2_with fail
             go_roundw
             case rel => exact ⟨j + 1, by omega, by go_num, by rw [HN.out, if_pos ⟨HA.out, hB, hC⟩]; exact HS1.out, HKJ.out.trans HK1.out (fun _ _ h => h)⟩
             case measure => simp [intOf]; omega
           · have g1 : (pa == (n : Int)) = true := by simpa using hA
             have g2 : decide (0 ≤ pw) = true := by simpa using hB
             have g3 : decide (pw < (len : Int)) = false := by simpa using hC
             have HA := hid hA
             have HNN := hid (fun h => hC h.2.2 : ¬ (pa = n ∧ 0 ≤ pw ∧ pw < (len : Int)))
             clear hA; go_wp2_with fail
             go_quiet (fail)
             go_wp2_with fail
             have HK1 := hid (((Keep.refl (fun k => S0 k ∨ N ≤ k) wr).alloc (.cells #[.int .i64 pa, .int .i64 pw, .int .i64 px] 104)).drewN nq)
             have HS1 := hid (hkeep _ _ _ _ HSJ.out (((Keep.refl (fun _ => False) wr).alloc (.cells #[.int .i64 pa, .int .i64 pw, .int .i64 px] 104)).drewN nq))
             go_roundw
             case rel => exact ⟨j + 1, by omega, by go_num, by rw [HN.out, if_neg HNN.out]; exact HS1.out, HKJ.out.trans HK1.out (fun _ _ h => h)⟩
             case measure => simp [intOf]; omega
         · have g1 : (pa == (n : Int)) = true := by simpa using hA
           have g2 : decide (0 ≤ pw) = false := by simpa using hB
           have HA := hid hA
           have HNN := hid (fun h => hB h.2.1 : ¬ (pa = n ∧ 0 ≤ pw ∧ pw < (len : Int)))
           clear hA; go_wp2_with fail
           go_quiet (fail)
           go_wp2_with fail
           have HK1 := hid (((Keep.refl (fun k => S0 k ∨ N ≤ k) wr).alloc (.cells #[.int .i64 pa, .int .i64 pw, .int .i64 px] 104)).drewN nq)
           have HS1 := hid (hkeep _ _ _ _ HSJ.out (((Keep.refl (fun _ => False) wr).alloc (.cells #[.int .i64 pa, .int .i64 pw, .int .i64 px] 104)).drewN nq))
           go_roundw
           case rel => exact ⟨j + 1, by omega, by go_num, by rw [HN.out, if_neg HNN.out]; exact HS1.out, HKJ.out.trans HK1.out (fun _ _ h => h)⟩
           case measure => simp [intOf]; omega
       · have g1 : (pa == (n : Int)) = false := by simpa using hA
         have HNN := hid (fun h => hA h.1 : ¬ (pa = n ∧ 0 ≤ pw ∧ pw < (len : Int)))
         go_wp2_with fail
         go_quiet (fail)
         go_wp2_with fail
         have HK1 := hid (((Keep.refl (fun k => S0 k ∨ N ≤ k) wr).alloc (.cells #[.int .i64 pa, .int .i64 pw, .int .i64 px] 104)).drewN nq)
         have HS1 := hid (hkeep _ _ _ _ HSJ.out (((Keep.refl (fun _ => False) wr).alloc (.cells #[.int .i64 pa, .int .i64 pw, .int .i64 px] 104)).drewN nq))
         go_roundw
         case rel => exact ⟨j + 1, by omega, by go_num, by rw [HN.out, if_neg HNN.out]; exact HS1.out, HKJ.out.trans HK1.out (fun _ _ h => h)⟩
         case measure => simp [intOf]; omega
     · have hst := HSJ.out
       rw [List.take_of_length_le (by omega)] at hst
       have hpl : playF stp pk len l (most - n) n t' = (if (stp (pokeAll pk len n l t')).2 then ((stp (pokeAll pk len n l t')).1, n + 1, true) else playF stp pk len l (most - (n + 1)) (n + 1) (stp (pokeAll pk len n l t')).1) := by
        rw [show most - n = (most - (n + 1)) + 1 from by omega]; rfl
       have HP2 := hid hpl
       have HST := hid hst
       clear hpl hst
       cases hb2 : (stp (pokeAll pk len n l t')).2
       all_goals
        have HB2 := hid hb2
        clear hb2
        go_wp2_with fail
        refine (hstep n _ _ hlt HST.out).mono ?_
        rintro e w1 ⟨rfl, hs1, hk2⟩
        rw [HB2.out]
        have HS1 := hid hs1
        have HK1 := hid hk2
        clear hs1 hk2
        go_wp2_with fail
       · go_roundw
         case rel => exact ⟨n + 1, by omega, by go_num, _, HS1.out, by rw [← HPL.out, HP2.out, HB2.out]; rfl, (HK.out.trans HKJ.out (fun _ _ h => h)).trans HK1.out (fun _ _ h => h)⟩
         case measure => simp [intOf]; omega
       · have hfin : playF stp pk len l most 0 t = ((stp (pokeAll pk len n l t')).1, n + 1, true) := by rw [← HPL.out, HP2.out, HB2.out]; rfl
         have HF := hid hfin
         clear hfin
         go_ret2
         rw [HF.out]
         exact ⟨by go_num, ⟨_, HS1.out⟩, (HK.out.trans HKJ.out (fun _ _ h => h)).trans HK1.out (fun _ _ h => h)⟩
  · have hnm : n = most := by omega
    have hfin : playF stp pk len l most 0 t = (t', most, false) := by rw [← HPL.out, hnm, Nat.sub_self]; rfl
    have HF := hid hfin
    clear hfin hnm
    go_wp2_with fail
    go_ret2
    rw [HF.out]
    exact ⟨rfl, ⟨_, HS'.out⟩, HK.out⟩
end
end Go.Proofs.YthaceckccobgeaaGreat

namespace Go.Proofs.YthaceckccobgeaaGreat
open Go.RowKit
set_option linter.unusedVariables false
set_option linter.unusedSimpArgs false
structure PS where
 W : List Int
 L : List Acc
 next : Nat
 had : Int
 saw : Int
 extra : Int
 bad : Bool
theorem rd_set (W : List Int) (i j : Nat) (x : Int) : rd (W.set i x) j = if j = i ∧ i < W.length then x else rd W j := by
 unfold rd
 rw [List.getD_eq_getElem?_getD, List.getD_eq_getElem?_getD, List.getElem?_set]
 by_cases h : i = j
 · subst h
   by_cases h2 : i < W.length
   · simp [h2]
   · simp [h2]
 · simp [h, Ne.symm h]
theorem rd_casW (W : List Int) (i j : Nat) (o x : Int) : rd (casW W i o x) j = if (j = i ∧ i < W.length) ∧ rd W i = o then x else rd W j := by
 unfold casW
 by_cases h : rd W i = o
 · simp [h, rd_set]
 · simp [h]
section
variable (av le : Nat) (n lim : Int)
def pNext (t : PS) : PS :=
 if t.next = 0 then { t with L := t.L ++ [⟨1, le, rd t.W le, 0, false⟩], had := rd t.W le, next := if n ≤ rd t.W le then 1 else 2 }
 else if t.next = 1 then { t with W := casW t.W le t.had (t.had - n), L := t.L ++ [⟨3, le, t.had, t.had - n, rd t.W le == t.had⟩], next := if rd t.W le = t.had then 7 else 0 }
 else if t.next = 2 then
  if rd t.W av < n then { t with L := t.L ++ [⟨1, av, rd t.W av, 0, false⟩], saw := rd t.W av, next := 7, bad := true }
  else { t with L := t.L ++ [⟨1, av, rd t.W av, 0, false⟩], saw := rd t.W av, extra := min (rd t.W av - n) (lim / 2), next := 3 }
 else if t.next = 3 then { t with W := casW t.W av t.saw (t.saw - n - t.extra), L := t.L ++ [⟨3, av, t.saw, t.saw - n - t.extra, rd t.W av == t.saw⟩], next := if rd t.W av = t.saw then (if t.extra = 0 then 7 else 4) else 2 }
 else if t.next = 4 then { t with L := t.L ++ [⟨1, le, rd t.W le, 0, false⟩], had := rd t.W le, next := if rd t.W le + t.extra ≤ lim then 5 else 6 }
 else if t.next = 5 then { t with W := casW t.W le t.had (t.had + t.extra), L := t.L ++ [⟨3, le, t.had, t.had + t.extra, rd t.W le == t.had⟩], next := if rd t.W le = t.had then 7 else 4 }
 else if t.next = 6 then { t with W := t.W.set av (rd t.W av + t.extra), L := t.L ++ [⟨2, av, t.extra, rd t.W av + t.extra, false⟩], next := 7 }
 else t
def pStp (t : PS) : PS × Bool := (pNext av le n lim t, decide ((pNext av le n lim t).next = 7))
structure PInv (X : Int) (t : PS) : Prop where
 la : av < t.W.length
 ll : le < t.W.length
 ne : av ≠ le
 n1 : 1 ≤ n ∧ n ≤ 1048576
 m1 : 0 ≤ lim ∧ lim ≤ 1048576
 wl : 0 ≤ rd t.W le ∧ rd t.W le ≤ lim
 wa : 0 ≤ rd t.W av ∧ rd t.W av ≤ X
 nx : t.next ≤ 7
 s1 : t.next = 1 → n ≤ t.had ∧ t.had ≤ lim
 s3 : t.next = 3 → n ≤ t.saw ∧ t.saw ≤ X ∧ t.extra = min (t.saw - n) (lim / 2)
 s4 : (t.next = 4 ∨ t.next = 5 ∨ t.next = 6) → 0 < t.extra ∧ t.extra ≤ lim / 2
 s5 : t.next = 5 → 0 ≤ t.had ∧ t.had + t.extra ≤ lim
 b : t.bad = true → t.next = 7
variable {av le n lim}
theorem PInv.more {X Y : Int} {t : PS} (h : PInv av le n lim X t) (hY : X ≤ Y) : PInv av le n lim Y t :=
 ⟨h.la, h.ll, h.ne, h.n1, h.m1, h.wl, ⟨h.wa.1, Int.le_trans h.wa.2 hY⟩, h.nx, h.s1, fun e => ⟨(h.s3 e).1, Int.le_trans (h.s3 e).2.1 hY, (h.s3 e).2.2⟩, h.s4, h.s5, h.b⟩
theorem pNext_over {t : PS} (h : t.next = 7) : pNext av le n lim t = t := by simp [pNext, h]
theorem pNext_log (t : PS) (h : t.next < 7) : (pNext av le n lim t).L.length = t.L.length + 1 := by
 unfold pNext
 repeat' split
 all_goals first | omega | (simp; done)
theorem PInv.step {X : Int} {t : PS} (h : PInv av le n lim X t) : PInv av le n lim (X + 1048576) (pNext av le n lim t) := by
 have h' := h.more (Y := X + 1048576) (by omega)
 obtain ⟨W, L, next, had, saw, extra, bad⟩ := t
 obtain ⟨la, ll, ne, n1, m1, wl, wa, nx, s1, s3, s4, s5, b⟩ := h
 simp only at *
 have hx : next = 0 ∨ next = 1 ∨ next = 2 ∨ next = 3 ∨ next = 4 ∨ next = 5 ∨ next = 6 ∨ next = 7 := by omega
 rcases hx with rfl | rfl | rfl | rfl | rfl | rfl | rfl | rfl
 · by_cases c : n ≤ rd W le
   · constructor <;> simp [pNext, c] at b ⊢ <;> first | assumption | omega
   · constructor <;> simp [pNext, c] at b ⊢ <;> first | assumption | omega
 · have := s1 rfl
   by_cases c : rd W le = had
   · constructor <;> simp [pNext, c, casW_length, rd_casW, ne, ll] at b ⊢ <;> first | assumption | omega
   · constructor <;> simp [pNext, c, casW_length, rd_casW] at b ⊢ <;> first | assumption | omega
 · by_cases c : rd W av < n
   · constructor <;> simp [pNext, c] at b ⊢ <;> first | assumption | omega
   · constructor <;> simp [pNext, c] at b ⊢ <;> first | assumption | omega
 · obtain ⟨q1, q2, q3⟩ := s3 rfl
   by_cases c : rd W av = saw
   · by_cases c2 : extra = 0
     · constructor <;> simp [pNext, c, c2, casW_length, rd_casW, ne, Ne.symm ne, la] at b ⊢ <;> first | assumption | omega
     · constructor <;> simp [pNext, c, c2, casW_length, rd_casW, ne, Ne.symm ne, la] at b ⊢ <;> first | assumption | omega
   · constructor <;> simp [pNext, c, casW_length, rd_casW] at b ⊢ <;> first | assumption | omega
 · have := s4 (by simp)
   by_cases c : rd W le + extra ≤ lim
   · constructor <;> simp [pNext, c] at b ⊢ <;> first | assumption | omega
   · constructor <;> simp [pNext, c] at b ⊢ <;> first | assumption | omega
 · have := s4 (by simp)
   have := s5 rfl
   by_cases c : rd W le = had
   · constructor <;> simp [pNext, c, casW_length, rd_casW, ne, ll] at b ⊢ <;> first | assumption | omega
   · constructor <;> simp [pNext, c, casW_length, rd_casW] at b ⊢ <;> first | assumption | omega
 · have := s4 (by simp)
   constructor <;> simp [pNext, rd_set, ne, Ne.symm ne, la] at b ⊢ <;> first | assumption | omega
 · exact h'
def pNeed (av le : Nat) (t : PS) : Nat :=
 if t.next = 0 then 5 else if t.next = 1 then (if rd t.W le = t.had then 1 else 6) else if t.next = 2 then 4
 else if t.next = 3 then (if rd t.W av = t.saw then 3 else 5) else if t.next = 4 then 2 else if t.next = 5 then (if rd t.W le = t.had then 1 else 3)
 else if t.next = 6 then 1 else 0
theorem pNeed_step {t : PS} (h : t.next < 7) : pNeed av le (pNext av le n lim t) + 1 ≤ pNeed av le t := by
 obtain ⟨W, L, next, had, saw, extra, bad⟩ := t
 simp only at h
 have hx : next = 0 ∨ next = 1 ∨ next = 2 ∨ next = 3 ∨ next = 4 ∨ next = 5 ∨ next = 6 := by omega
 rcases hx with rfl | rfl | rfl | rfl | rfl | rfl | rfl
 · by_cases c : n ≤ rd W le <;> simp [pNext, pNeed, c]
 · by_cases c : rd W le = had <;> simp [pNext, pNeed, c]
 · by_cases c : rd W av < n <;> simp [pNext, pNeed, c]
 · by_cases c : rd W av = saw <;> by_cases c2 : extra = 0 <;> simp [pNext, pNeed, c, c2]
 · by_cases c : rd W le + extra ≤ lim <;> simp [pNext, pNeed, c]
 · by_cases c : rd W le = had <;> simp [pNext, pNeed, c]
 · simp [pNext, pNeed]
end
end Go.Proofs.YthaceckccobgeaaGreat

namespace Go.Proofs.YthaceckccobgeaaGreat
open Go.RowKit
set_option linter.unusedVariables false
set_option linter.unusedSimpArgs false
structure CS where
 W : List Int
 L : List Acc
 j : Nat
 seen : Bool
 saw : Int
 set : Int
 fin : Nat
 n : Nat
def st10 (x : Int) : Int := if 0 ≤ pVal x ∧ pVal x ≤ 3 then pVal x else -1
def ck (K s j : Nat) : Nat := (s + j) % K
section
variable (K s q : Nat)
def cNx (t : CS) : CS := { t with j := t.j + 1, seen := false, fin := if t.j + 1 = K then 2 else 0 }
def cLook (t : CS) : CS := { t with saw := rd t.W (q + 2 * ck K s t.j), seen := true, L := t.L ++ [⟨1, (q + 2 * ck K s t.j : Nat), rd t.W (q + 2 * ck K s t.j), 0, false⟩] }
def cTake (t : CS) : CS := { t with W := casW t.W (q + 2 * ck K s t.j) t.saw (pNext6 t.saw 1), L := t.L ++ [⟨3, (q + 2 * ck K s t.j : Nat), t.saw, pNext6 t.saw 1, rd t.W (q + 2 * ck K s t.j) == t.saw⟩] }
def cNext (t : CS) : CS :=
 if t.fin = 0 then
  if t.seen = false then (if st10 (rd t.W (q + 2 * ck K s t.j)) = 0 then cLook K s q t else cNx K (cLook K s q t))
  else (if rd t.W (q + 2 * ck K s t.j) = t.saw then { cTake K s q t with fin := 1, n := ck K s t.j, set := pNext6 t.saw 1 } else cNx K (cTake K s q t))
 else t
def cStp (t : CS) : CS × Bool := (cNext K s q t, decide ((cNext K s q t).fin ≠ 0))
structure CInv (t : CS) : Prop where
 ln : q + 2 * K ≤ t.W.length
 wl : t.W.length ≤ 10000
 kb : 1 ≤ K ∧ K ≤ 16
 fb : t.fin ≤ 2
 jb : t.fin ≠ 2 → t.j < K
 z : t.fin = 0 → t.set = 0 ∧ t.n = 0
 z2 : t.fin = 2 → t.set = 0 ∧ t.n = 0
variable {K s q}
theorem ck_lt {j : Nat} (h : 1 ≤ K) : ck K s j < K := Nat.mod_lt _ h
theorem cNext_over {t : CS} (h : t.fin ≠ 0) : cNext K s q t = t := by unfold cNext; rw [if_neg h]
theorem CInv.nx {t : CS} (ln : q + 2 * K ≤ t.W.length) (wl : t.W.length ≤ 10000) (kb : 1 ≤ K ∧ K ≤ 16) (jb : t.j < K) (z : t.set = 0 ∧ t.n = 0) : CInv K q (cNx K t) := by
 refine ⟨ln, wl, kb, ?_, ?_, fun _ => z, fun _ => z⟩
 · show (if t.j + 1 = K then 2 else 0) ≤ 2
   split <;> omega
 · intro h
   have h' : (if t.j + 1 = K then 2 else 0) ≠ 2 := h
   show t.j + 1 < K
   split at h' <;> omega
theorem CInv.step {t : CS} (h : CInv K q t) : CInv K q (cNext K s q t) := by
 unfold cNext
 split
 · rename_i h0
   have hj := h.jb (by omega)
   split
   · split
     · exact ⟨h.ln, h.wl, h.kb, h.fb, h.jb, h.z, h.z2⟩
     · exact CInv.nx h.ln h.wl h.kb hj (h.z h0)
   · split
     · exact ⟨by simpa [cTake, casW_length] using h.ln, by simpa [cTake, casW_length] using h.wl, h.kb, by show (1 : Nat) ≤ 2; omega, fun _ => hj, fun h => by simp at h, fun h => by simp at h⟩
     · exact CInv.nx (by simpa [cTake, casW_length] using h.ln) (by simpa [cTake, casW_length] using h.wl) h.kb hj (h.z h0)
 · exact h
theorem cNext_log (t : CS) (h : t.fin = 0) : (cNext K s q t).L.length = t.L.length + 1 := by
 unfold cNext
 rw [if_pos h]
 split
 · split <;> simp [cLook, cNx]
 · split <;> simp [cTake, cNx]
end
end Go.Proofs.YthaceckccobgeaaGreat

namespace Go.Proofs.YthaceckccobgeaaGreat
open Go.RowKit
set_option linter.unusedVariables false
set_option linter.unusedSimpArgs false
set_option maxRecDepth 100000
set_option maxHeartbeats 400000 in
theorem ref10_State (v : Int) (w : World) : Calls Tryz.prog 71 #[i64 v] w (fun e w' => e = .returned (i64 (st10 v)) ∧ w = w') := by
 have HV := hid (ref1_Value v w)
 by_cases h0 : pVal v < 0
 · have e : st10 v = -1 := by unfold st10; rw [if_neg (by omega)]
   have g1 : decide (pVal v < 0) = true := decide_eq_true h0
   rw [e]
   clear e h0
   go_enter Tryz.func71, Tryz.ntmps71
   go_wp2_with fail
   refine HV.out.mono ?_
   rintro e w1 ⟨rfl, rfl⟩
   go_wp2_with fail
   go_ret
   exact ⟨rfl, rfl⟩
 · have g1 : decide (pVal v < 0) = false := decide_eq_false h0
   by_cases h3 : 3 < pVal v
   · have e : st10 v = -1 := by unfold st10; rw [if_neg (by omega)]
     have g2 : decide (3 < pVal v) = true := decide_eq_true h3
     rw [e]
     clear e h0 h3
     go_enter Tryz.func71, Tryz.ntmps71
     go_wp2_with fail
     refine HV.out.mono ?_
     rintro e w1 ⟨rfl, rfl⟩
     go_wp2_with fail
     go_ret
     exact ⟨rfl, rfl⟩
   · have e : st10 v = pVal v := by unfold st10; rw [if_pos (by omega)]
     have g2 : decide (3 < pVal v) = false := decide_eq_false h3
     rw [e]
     clear e h0 h3
     go_enter Tryz.func71, Tryz.ntmps71
     go_wp2_with fail
     refine HV.out.mono ?_
     rintro e w1 ⟨rfl, rfl⟩
     go_wp2_with fail
     go_ret
     exact ⟨rfl, rfl⟩
set_option maxHeartbeats 400000 in
theorem ref10_Turn (v : Int) (w : World) : Calls Tryz.prog 55 #[i64 v, i64 1] w (fun e w' => e = .returned (.tuple #[i64 (pNext6 v 1), .bool true]) ∧ w = w') := by
 have HV := hid (ref1_Next v 1 w (by omega))
 go_enter Tryz.func55, Tryz.ntmps55
 go_wp2_with fail
 refine HV.out.mono ?_
 rintro e w1 ⟨rfl, rfl⟩
 go_wp2_with fail
 go_ret2
 exact ⟨rfl, rfl⟩
end Go.Proofs.YthaceckccobgeaaGreat
