/- mem.Play: a machine is stepped, whatever it is. -/
import Derived.Test.YtlkniogapdhcpaaMemC
import Derived.Deep.QuietTactic
import Derived.BigQuiet
import Derived.Deep.LoopGhost
namespace Go.Proofs.Ytlkniogapdhcpaa
open Go.RowKit
set_option linter.unusedVariables false
set_option linter.unusedSimpArgs false

structure Pk where
  at_ : Int
  w : Int
  x : Int
/-- a slice of pokes: address (block, offset), as it lies -/
def PokesAt (w : World) (v : Value) (l : List Pk) : Prop :=
  (v = .slice none 0 0 ∧ l = []) ∨ ∃ b o c, v = .slice (some ⟨b, o, none⟩) l.length c ∧ ∀ i (h : i < l.length), w.cell? ⟨b, o + i * 3, none⟩ = some (i64 l[i].at_) ∧ w.cell? ⟨b, o + i * 3 + 1, none⟩ = some (i64 l[i].w) ∧ w.cell? ⟨b, o + i * 3 + 2, none⟩ = some (i64 l[i].x)

section
variable {τ : Type}
def pokeAll (pk : τ → Nat → Int → τ) (len : Nat) (n : Int) (l : List Pk) (t : τ) : τ :=
  l.foldl (fun t p => if p.at_ = n ∧ 0 ≤ p.w ∧ p.w < (len : Int) then pk t p.w.toNat p.x else t) t
def playF (stp : τ → τ × Bool) (pk : τ → Nat → Int → τ) (len : Nat) (l : List Pk) : Nat → Nat → τ → τ × Nat × Bool
  | 0, n, t => (t, n, false)
  | k + 1, n, t =>
    let r := stp (pokeAll pk len n l t)
    if r.2 then (r.1, n + 1, true) else playF stp pk len l k (n + 1) r.1

theorem pokeAll_snoc (pk : τ → Nat → Int → τ) (len : Nat) (n : Int) (l : List Pk) (j : Nat) (hjl : j < l.length) (t : τ) :
    pokeAll pk len n (l.take (j + 1)) t = if l[j].at_ = n ∧ 0 ≤ l[j].w ∧ l[j].w < (len : Int) then pk (pokeAll pk len n (l.take j) t) l[j].w.toNat l[j].x else pokeAll pk len n (l.take j) t := by
  unfold pokeAll
  rw [List.take_succ_eq_append_getElem hjl, List.foldl_append]
  rfl

set_option maxHeartbeats 1000000 in
set_option maxRecDepth 100000 in
theorem mem_Play (Sys : Nat → World → τ → Prop) (stp : τ → τ × Bool) (pk : τ → Nat → Int → τ) (len : Nat) (F : FuncId) (xT : TypeId) (x : Nat) (m : Nat) (S0 : Nat → Prop) (N : Nat) (l : List Pk) (A0 : Option Addr) (b o c : Nat) (most : Nat) (w : World) (t : τ)
    (hmost : most ≤ 1000000) (hl : l.length ≤ 1000000) (hN : N ≤ w.heap.size) (hA0 : 0 < l.length → A0 = some ⟨b, o, none⟩ ∧ b < N ∧ ¬ S0 b)
    (hcells : ∀ i (h : i < l.length), w.cell? ⟨b, o + i * 3, none⟩ = some (i64 l[i].at_) ∧ w.cell? ⟨b, o + i * 3 + 1, none⟩ = some (i64 l[i].w) ∧ w.cell? ⟨b, o + i * 3 + 2, none⟩ = some (i64 l[i].x))
    (hmem : ∀ n w t, Sys n w t → ∃ a lv, Blk w m 84 [.slice (some ⟨a, 0, none⟩) len len, lv])
    (hkeep : ∀ n w w' t, Sys n w t → Keep (fun _ => False) w w' → Sys n w' t)
    (hpoke : ∀ n w t (i x : Int), (∃ p ∈ l, p.w = i ∧ p.x = x) → Sys n w t → 0 ≤ i → i < len → Calls Try.prog 30 #[ptr m, i64 i, i64 x] w fun e w' => e = .returned (.tuple #[]) ∧ Sys n w' (pk t i.toNat x) ∧ Keep (fun k => S0 k ∨ N ≤ k) w w')
    (hstep : ∀ n w t, n < most → Sys n w t → Calls Try.prog F #[ptr x, ptr m] w fun e w' => e = .returned (.bool (stp t).2) ∧ Sys (n + 1) w' (stp t).1 ∧ Keep (fun k => S0 k ∨ N ≤ k) w w')
    (hmeth : ∀ w, (method 235 xT (ptr x) "Step").run Try.prog w = .ok (F, ptr x) w)
    (hF : ∀ (args : Array Value) (w : World), (callFunc F args).run Try.prog w = .ok (.enter F args) w)
    (hs : Sys 0 w t) :
    Calls Try.prog 14 #[ptr m, .iface xT (ptr x), .slice A0 l.length c, i64 most] w fun e w' =>
      e = .returned (.tuple #[i64 (playF stp pk len l most 0 t).2.1, .bool (playF stp pk len l most 0 t).2.2]) ∧ (∃ n, Sys n w' (playF stp pk len l most 0 t).1) ∧ Keep (fun k => S0 k ∨ N ≤ k) w w' := by
  go_enter Try.func14, Try.ntmps14
  go_wp2_with fail
  go_loopw [10] (fun v wr => ∃ n : Nat, n ≤ most ∧ v = .int .i64 n ∧ ∃ t', Sys n wr t' ∧ playF stp pk len l (most - n) n t' = playF stp pk len l most 0 t ∧ Keep (fun k => S0 k ∨ N ≤ k) w wr) (fun v _ => most - (intOf v).toNat)
  case atStart => exact ⟨0, Nat.zero_le _, rfl, t, hs, rfl, Keep.refl _ _⟩
  case round =>
    obtain ⟨n, hn, rfl, t', hs', hpl, hk⟩ := hrel
    have HPL := hid hpl
    have HS' := hid hs'
    have HK := hid hk
    clear hpl hs' hk hs
    by_cases hlt : n < most
    · go_wp2_with fail
      obtain ⟨wo, rfl⟩ : ∃ wo : World, wo = wr := ⟨_, rfl⟩
      go_loopw [20] (fun v wi => ∃ j : Nat, j ≤ l.length ∧ v = .int .i64 j ∧ Sys n wi (pokeAll pk len n (l.take j) t') ∧ Keep (fun k => S0 k ∨ N ≤ k) wo wi) (fun v _ => l.length - (intOf v).toNat)
      case atStart => exact ⟨0, Nat.zero_le _, rfl, HS'.out, Keep.refl _ _⟩
      case round =>
        obtain ⟨j, hj, rfl, hsj, hkj⟩ := hrel
        have HSJ := hid hsj
        have HKJ := hid hkj
        clear hsj hkj
        by_cases hjl : j < l.length
        · obtain ⟨rfl, hb, hbS⟩ := hA0 (by omega)
          have hbw : b < wo.heap.size := Nat.lt_of_lt_of_le hb (Nat.le_trans hN HK.out.size)
          have hbS' : ¬ (S0 b ∨ N ≤ b) := fun h => h.elim hbS (by omega)
          obtain ⟨a1, a2, a3⟩ := hcells j hjl
          rw [← cell_old HK.out (Nat.lt_of_lt_of_le hb hN) hbS', ← cell_old HKJ.out hbw hbS'] at a1 a2 a3
          have hnext : pokeAll pk len n (l.take (j + 1)) t' = if l[j].at_ = n ∧ 0 ≤ l[j].w ∧ l[j].w < (len : Int) then pk (pokeAll pk len n (l.take j) t') l[j].w.toNat l[j].x else pokeAll pk len n (l.take j) t' := by
            exact pokeAll_snoc pk len n l j hjl t'
          have hinl : ∃ p ∈ l, p.w = l[j].w ∧ p.x = l[j].x := ⟨l[j], List.getElem_mem hjl, rfl, rfl⟩
          have HIN := hid hinl
          clear hinl
          generalize l[j].at_ = pa at *
          generalize l[j].w = pw at *
          generalize l[j].x = px at *
          have HN := hid hnext
          clear hnext
          obtain ⟨ma, mlv, hmb⟩ := hmem _ _ _ HSJ.out
          have hms := hmb.k2
          have hbz := lts (Nat.lt_of_lt_of_le hbw HKJ.out.size)
          clear hmb
          by_cases hA : pa = n
          · by_cases hB : 0 ≤ pw
            · by_cases hC : pw < (len : Int)
              · have g1 : (pa == (n : Int)) = true := by simpa using hA
                have g2 : decide (0 ≤ pw) = true := by simpa using hB
                have g3 : decide (pw < (len : Int)) = true := by simpa using hC
                have HA := hid hA
                clear hA
                go_wp2_with fail
                go_quiet (fail)
                go_wp2_with fail
                have hk1 : Keep (fun _ => False) wr ((wr.alloc (.cells #[.int .i64 pa, .int .i64 pw, .int .i64 px] 72)).drewN nq) := ((Keep.refl _ wr).alloc _).drewN _
                refine (hpoke n _ _ pw px HIN.out (hkeep _ _ _ _ HSJ.out hk1) hB hC).mono ?_
                rintro e w1 ⟨rfl, hs1, hk2⟩
                have HS1 := hid hs1
                have HK1 := hid (Keep.trans (hk1.mono (T := fun k => S0 k ∨ N ≤ k) (fun _ h => h.elim)) hk2 (fun _ _ h => h))
                clear hs1 hk1 hk2
                go_wp2_with fail
                go_roundw
                case rel => exact ⟨j + 1, by omega, by go_num, by rw [HN.out, if_pos ⟨HA.out, hB, hC⟩]; exact HS1.out, HKJ.out.trans HK1.out (fun _ _ h => h)⟩
                case measure => simp [intOf]; omega
              · have g1 : (pa == (n : Int)) = true := by simpa using hA
                have g2 : decide (0 ≤ pw) = true := by simpa using hB
                have g3 : decide (pw < (len : Int)) = false := by simpa using hC
                have HA := hid hA
                have HNN := hid (fun h => hC h.2.2 : ¬ (pa = n ∧ 0 ≤ pw ∧ pw < (len : Int)))
                clear hA; go_wp2_with fail
                go_quiet (fail)
                go_wp2_with fail
                have HK1 := hid (((Keep.refl (fun k => S0 k ∨ N ≤ k) wr).alloc (.cells #[.int .i64 pa, .int .i64 pw, .int .i64 px] 72)).drewN nq)
                have HS1 := hid (hkeep _ _ _ _ HSJ.out (((Keep.refl (fun _ => False) wr).alloc (.cells #[.int .i64 pa, .int .i64 pw, .int .i64 px] 72)).drewN nq))
                go_roundw
                case rel => exact ⟨j + 1, by omega, by go_num, by rw [HN.out, if_neg HNN.out]; exact HS1.out, HKJ.out.trans HK1.out (fun _ _ h => h)⟩
                case measure => simp [intOf]; omega
            · have g1 : (pa == (n : Int)) = true := by simpa using hA
              have g2 : decide (0 ≤ pw) = false := by simpa using hB
              have HA := hid hA
              have HNN := hid (fun h => hB h.2.1 : ¬ (pa = n ∧ 0 ≤ pw ∧ pw < (len : Int)))
              clear hA; go_wp2_with fail
              go_quiet (fail)
              go_wp2_with fail
              have HK1 := hid (((Keep.refl (fun k => S0 k ∨ N ≤ k) wr).alloc (.cells #[.int .i64 pa, .int .i64 pw, .int .i64 px] 72)).drewN nq)
              have HS1 := hid (hkeep _ _ _ _ HSJ.out (((Keep.refl (fun _ => False) wr).alloc (.cells #[.int .i64 pa, .int .i64 pw, .int .i64 px] 72)).drewN nq))
              go_roundw
              case rel => exact ⟨j + 1, by omega, by go_num, by rw [HN.out, if_neg HNN.out]; exact HS1.out, HKJ.out.trans HK1.out (fun _ _ h => h)⟩
              case measure => simp [intOf]; omega
          · have g1 : (pa == (n : Int)) = false := by simpa using hA
            have HNN := hid (fun h => hA h.1 : ¬ (pa = n ∧ 0 ≤ pw ∧ pw < (len : Int)))
            go_wp2_with fail
            go_quiet (fail)
            go_wp2_with fail
            have HK1 := hid (((Keep.refl (fun k => S0 k ∨ N ≤ k) wr).alloc (.cells #[.int .i64 pa, .int .i64 pw, .int .i64 px] 72)).drewN nq)
            have HS1 := hid (hkeep _ _ _ _ HSJ.out (((Keep.refl (fun _ => False) wr).alloc (.cells #[.int .i64 pa, .int .i64 pw, .int .i64 px] 72)).drewN nq))
            go_roundw
            case rel => exact ⟨j + 1, by omega, by go_num, by rw [HN.out, if_neg HNN.out]; exact HS1.out, HKJ.out.trans HK1.out (fun _ _ h => h)⟩
            case measure => simp [intOf]; omega
        · have hst := HSJ.out
          rw [List.take_of_length_le (by omega)] at hst
          have hpl : playF stp pk len l (most - n) n t' = (if (stp (pokeAll pk len n l t')).2 then ((stp (pokeAll pk len n l t')).1, n + 1, true) else playF stp pk len l (most - (n + 1)) (n + 1) (stp (pokeAll pk len n l t')).1) := by
            rw [show most - n = (most - (n + 1)) + 1 from by omega]; rfl
          have HP2 := hid hpl
          have HST := hid hst
          clear hpl hst
          cases hb2 : (stp (pokeAll pk len n l t')).2
          all_goals
            have HB2 := hid hb2
            clear hb2
            go_wp2_with fail
            refine (hstep n _ _ hlt HST.out).mono ?_
            rintro e w1 ⟨rfl, hs1, hk2⟩
            rw [HB2.out]
            have HS1 := hid hs1
            have HK1 := hid hk2
            clear hs1 hk2
            go_wp2_with fail
          · go_roundw
            case rel => exact ⟨n + 1, by omega, by go_num, _, HS1.out, by rw [← HPL.out, HP2.out, HB2.out]; rfl, (HK.out.trans HKJ.out (fun _ _ h => h)).trans HK1.out (fun _ _ h => h)⟩
            case measure => simp [intOf]; omega
          · have hfin : playF stp pk len l most 0 t = ((stp (pokeAll pk len n l t')).1, n + 1, true) := by rw [← HPL.out, HP2.out, HB2.out]; rfl
            have HF := hid hfin
            clear hfin
            go_ret2
            rw [HF.out]
            exact ⟨by go_num, ⟨_, HS1.out⟩, (HK.out.trans HKJ.out (fun _ _ h => h)).trans HK1.out (fun _ _ h => h)⟩
    · have hnm : n = most := by omega
      have hfin : playF stp pk len l most 0 t = (t', most, false) := by rw [← HPL.out, hnm, Nat.sub_self]; rfl
      have HF := hid hfin
      clear hfin hnm
      go_wp2_with fail
      go_ret2
      rw [HF.out]
      exact ⟨rfl, ⟨_, HS'.out⟩, HK.out⟩
end
end Go.Proofs.Ytlkniogapdhcpaa
