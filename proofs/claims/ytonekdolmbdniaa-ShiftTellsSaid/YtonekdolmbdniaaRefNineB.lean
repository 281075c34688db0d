/- RefNineB: the texts RefPlayNine, RefOwn, RefShiftS, in one. -/
import Derived.Test.YtonekdolmbdniaaPoolQ
import Derived.Test.YtonekdolmbdniaaRegion
import Derived.Test.YtonekdolmbdniaaRefOps
import Derived.Test.YtonekdolmbdniaaConf
import Derived.Deep.DeepCutAuto
import Derived.Test.YtonekdolmbdniaaRefNineA
namespace Go.Proofs.Ytonekdolmbdniaa
open Go.RowKit
set_option linter.unusedVariables false
set_option linter.unusedSimpArgs false
set_option maxRecDepth 100000
section
variable {τ : Type}
set_option maxHeartbeats 4000000 in
theorem ref9_Play (Sys : Nat → World → τ → Prop) (stp : τ → τ × Bool) (pk : τ → Nat → Int → τ) (len : Nat) (y : Nat) (m : Nat) (S0 : Nat → Prop) (N : Nat) (l : List Pk) (A0 : Option Addr) (b o c : Nat) (most : Nat) (w : World) (t : τ)
    (hmost : most ≤ 1000000) (hl : l.length ≤ 1000000) (hlen : len ≤ 1000000) (hN : N ≤ w.heap.size) (hA0 : 0 < l.length → A0 = some ⟨b, o, none⟩ ∧ b < N ∧ ¬ S0 b)
    (hcells : ∀ i (h : i < l.length), w.cell? ⟨b, o + i * 3, none⟩ = some (i64 l[i].at_) ∧ w.cell? ⟨b, o + i * 3 + 1, none⟩ = some (i64 l[i].w) ∧ w.cell? ⟨b, o + i * 3 + 2, none⟩ = some (i64 l[i].x))
    (hmem : ∀ n w t, Sys n w t → ∃ A c lv, Blk w m 61 [.slice A len c, lv])
    (hkeep : ∀ n w w' t, Sys n w t → Keep (fun _ => False) w w' → Sys n w' t)
    (hpoke : ∀ n w t (i x : Int), (∃ p ∈ l, p.w = i ∧ p.x = x) → Sys n w t → 0 ≤ i → i < len → Calls Try.prog 52 #[ptr m, i64 i, i64 x] w fun e w' => e = .returned (.tuple #[]) ∧ Sys n w' (pk t i.toNat x) ∧ Keep (fun k => S0 k ∨ N ≤ k) w w')
    (hstep : ∀ n w t, n < most → Sys n w t → Calls Try.prog 53 #[ptr y, ptr m] w fun e w' => e = .returned (.bool (stp t).2) ∧ Sys (n + 1) w' (stp t).1 ∧ Keep (fun k => S0 k ∨ N ≤ k) w w')
    (hs : Sys 0 w t) :
    Calls Try.prog 26 #[ptr m, ptr y, .slice A0 l.length c, i64 most] w fun e w' =>
      e = .returned (.tuple #[i64 (playF stp pk len l most 0 t).2.1, .bool (playF stp pk len l most 0 t).2.2]) ∧ (∃ n, Sys n w' (playF stp pk len l most 0 t).1) ∧ Keep (fun k => S0 k ∨ N ≤ k) w w' := by
  go_enter Try.func26, Try.ntmps26
  go_wp2_with fail
  go_loopw [10] (fun v wr => ∃ n : Nat, n ≤ most ∧ v = .int .i64 n ∧ ∃ t', Sys n wr t' ∧ playF stp pk len l (most - n) n t' = playF stp pk len l most 0 t ∧ Keep (fun k => S0 k ∨ N ≤ k) w wr) (fun v _ => most - (intOf v).toNat)
  case atStart => exact ⟨0, Nat.zero_le _, rfl, t, hs, rfl, Keep.refl _ _⟩
  case round =>
    obtain ⟨n, hn, rfl, t', hs', hpl, hk⟩ := hrel
    have HPL := hid hpl
    have HS' := hid hs'
    have HK := hid hk
    clear hpl hs' hk hs
    by_cases hlt : n < most
    · go_wp2_with fail
      obtain ⟨wo, rfl⟩ : ∃ wo : World, wo = wr := ⟨_, rfl⟩
      go_loopw [11] (fun v wi => ∃ j : Nat, j ≤ l.length ∧ v = .int .i64 j ∧ Sys n wi (pokeAll pk len n (l.take j) t') ∧ Keep (fun k => S0 k ∨ N ≤ k) wo wi) (fun v _ => l.length - (intOf v).toNat)
      case atStart => exact ⟨0, Nat.zero_le _, rfl, HS'.out, Keep.refl _ _⟩
      case round =>
        obtain ⟨j, hj, rfl, hsj, hkj⟩ := hrel
        have HSJ := hid hsj
        have HKJ := hid hkj
        clear hsj hkj
        by_cases hjl : j < l.length
        · obtain ⟨rfl, hb, hbS⟩ := hA0 (by omega)
          have hbw : b < wo.heap.size := Nat.lt_of_lt_of_le hb (Nat.le_trans hN HK.out.size)
          have hbS' : ¬ (S0 b ∨ N ≤ b) := fun h => h.elim hbS (by omega)
          obtain ⟨a1, a2, a3⟩ := hcells j hjl
          rw [← cell_old HK.out (Nat.lt_of_lt_of_le hb hN) hbS'] at a1 a2 a3
          have hnext : pokeAll pk len n (l.take (j + 1)) t' = if l[j].at_ = n ∧ 0 ≤ l[j].w ∧ l[j].w < (len : Int) then pk (pokeAll pk len n (l.take j) t') l[j].w.toNat l[j].x else pokeAll pk len n (l.take j) t' := by
            exact pokeAll_snoc pk len n l j hjl t'
          have hinl : ∃ p ∈ l, p.w = l[j].w ∧ p.x = l[j].x := ⟨l[j], List.getElem_mem hjl, rfl, rfl⟩
          have HIN := hid hinl
          clear hinl
          generalize l[j].at_ = pa at *
          generalize l[j].w = pw at *
          generalize l[j].x = px at *
          have HN := hid hnext
          clear hnext
          have HCL := hid (fun (wx : World) (hk : Keep (fun k => S0 k ∨ N ≤ k) wo wx) => (⟨(cell_old hk hbw hbS' _).trans a1, (cell_old hk hbw hbS' _).trans a2, (cell_old hk hbw hbS' _).trans a3, Nat.lt_of_lt_of_le hbw hk.size⟩ : wx.cell? ⟨b, o + j * 3, none⟩ = some (i64 pa) ∧ wx.cell? ⟨b, o + j * 3 + 1, none⟩ = some (i64 pw) ∧ wx.cell? ⟨b, o + j * 3 + 2, none⟩ = some (i64 px) ∧ b < wx.heap.size))
          obtain ⟨mA, mc, mlv, hmb⟩ := hmem _ _ _ HSJ.out
          have HMB := hid hmb
          clear hmb a1 a2 a3
          by_cases hA : pa = n
          · have g1 : (pa == (n : Int)) = true := by simpa using hA
            have HA := hid hA
            clear hA
            by_cases hB : 0 ≤ pw
            · have g2 : decide (0 ≤ pw) = true := by simpa using hB
              by_cases hC : pw < (len : Int)
              · have g3 : decide (pw < (len : Int)) = true := by simpa using hC
                go_wp2_with fail
                apply wp_region_text (WI := fun S wx => Keep0 wr wx) (by kernel_rfl) (by kernel_rfl)
                case hob =>
                  apply Oblig.cons
                  case h =>
                    intro S w1 hwi hSi hd hcl
                    apply StepOk.intro
                    intro K hK
                    obtain ⟨a1, a2, a3, hbz⟩ := HCL.out _ (HKJ.out.trans (hwi.mono (T := fun k => S0 k ∨ N ≤ k) (fun _ h => h.elim)) (fun _ _ h => h))
                    have qm := (hwi.blk HMB.out (fun h => h)).k2
                    go_simp
                    apply hK
                    · rfl
                    · conv => (lhs; whnf)
                    · exact hwi
                  simp only [put_lit, put_none, List.set_cons_succ, List.set_cons_zero]
                  apply Oblig.cons
                  case h =>
                    intro S w1 hwi hSi hd hcl
                    apply StepOk.intro
                    intro K hK
                    obtain ⟨a1, a2, a3, hbz⟩ := HCL.out _ (HKJ.out.trans (hwi.mono (T := fun k => S0 k ∨ N ≤ k) (fun _ h => h.elim)) (fun _ _ h => h))
                    have qm := (hwi.blk HMB.out (fun h => h)).k2
                    go_simp
                    apply hK
                    · rfl
                    · conv => (lhs; whnf)
                    · exact hwi
                  simp only [put_lit, put_none, List.set_cons_succ, List.set_cons_zero]
                  apply Oblig.cons
                  case h =>
                    intro S w1 hwi hSi hd hcl
                    apply StepOk.intro
                    intro K hK
                    obtain ⟨a1, a2, a3, hbz⟩ := HCL.out _ (HKJ.out.trans (hwi.mono (T := fun k => S0 k ∨ N ≤ k) (fun _ h => h.elim)) (fun _ _ h => h))
                    have qm := (hwi.blk HMB.out (fun h => h)).k2
                    go_simp
                    apply hK
                    · rfl
                    · conv => (lhs; whnf)
                    · exact hwi
                  simp only [put_lit, put_none, List.set_cons_succ, List.set_cons_zero]
                  apply Oblig.cons
                  case h =>
                    intro S w1 hwi hSi hd hcl
                    apply StepOk.intro
                    intro K hK
                    obtain ⟨a1, a2, a3, hbz⟩ := HCL.out _ (HKJ.out.trans (hwi.mono (T := fun k => S0 k ∨ N ≤ k) (fun _ h => h.elim)) (fun _ _ h => h))
                    have qm := (hwi.blk HMB.out (fun h => h)).k2
                    go_simp
                    apply hK
                    · rfl
                    · conv => (lhs; whnf)
                    · exact hwi
                  simp only [put_lit, put_none, List.set_cons_succ, List.set_cons_zero]
                  apply Oblig.cons
                  case h =>
                    intro S w1 hwi hSi hd hcl
                    apply StepOk.intro
                    intro K hK
                    obtain ⟨a1, a2, a3, hbz⟩ := HCL.out _ (HKJ.out.trans (hwi.mono (T := fun k => S0 k ∨ N ≤ k) (fun _ h => h.elim)) (fun _ _ h => h))
                    have qm := (hwi.blk HMB.out (fun h => h)).k2
                    go_simp
                    apply hK
                    · rfl
                    · conv => (lhs; whnf)
                    · exact hwi
                  simp only [put_lit, put_none, List.set_cons_succ, List.set_cons_zero]
                  apply Oblig.cons
                  case h =>
                    intro S w1 hwi hSi hd hcl
                    apply StepOk.intro
                    intro K hK
                    obtain ⟨a1, a2, a3, hbz⟩ := HCL.out _ (HKJ.out.trans (hwi.mono (T := fun k => S0 k ∨ N ≤ k) (fun _ h => h.elim)) (fun _ _ h => h))
                    have qm := (hwi.blk HMB.out (fun h => h)).k2
                    go_simp
                    apply hK
                    · rfl
                    · conv => (lhs; whnf)
                    · exact hwi
                  simp only [put_lit, put_none, List.set_cons_succ, List.set_cons_zero]
                  apply Oblig.cons
                  case h =>
                    intro S w1 hwi hSi hd hcl
                    apply StepOk.intro
                    intro K hK
                    obtain ⟨a1, a2, a3, hbz⟩ := HCL.out _ (HKJ.out.trans (hwi.mono (T := fun k => S0 k ∨ N ≤ k) (fun _ h => h.elim)) (fun _ _ h => h))
                    have qm := (hwi.blk HMB.out (fun h => h)).k2
                    go_simp
                    apply hK
                    · rfl
                    · conv => (lhs; whnf)
                    · exact hwi
                  simp only [put_lit, put_none, List.set_cons_succ, List.set_cons_zero]
                  apply Oblig.cons
                  case h =>
                    intro S w1 hwi hSi hd hcl
                    apply StepOk.intro
                    intro K hK
                    obtain ⟨a1, a2, a3, hbz⟩ := HCL.out _ (HKJ.out.trans (hwi.mono (T := fun k => S0 k ∨ N ≤ k) (fun _ h => h.elim)) (fun _ _ h => h))
                    have qm := (hwi.blk HMB.out (fun h => h)).k2
                    go_simp
                    apply hK
                    · rfl
                    · conv => (lhs; whnf)
                    · exact hwi
                  simp only [put_lit, put_none, List.set_cons_succ, List.set_cons_zero]
                  apply Oblig.cons
                  case h =>
                    intro S w1 hwi hSi hd hcl
                    apply StepOk.intro
                    intro K hK
                    obtain ⟨a1, a2, a3, hbz⟩ := HCL.out _ (HKJ.out.trans (hwi.mono (T := fun k => S0 k ∨ N ≤ k) (fun _ h => h.elim)) (fun _ _ h => h))
                    have qm := (hwi.blk HMB.out (fun h => h)).k2
                    go_simp
                    apply hK
                    · rfl
                    · conv => (lhs; whnf)
                    · exact hwi
                  simp only [put_lit, put_none, List.set_cons_succ, List.set_cons_zero]
                  apply Oblig.cons
                  case h =>
                    intro S w1 hwi hSi hd hcl
                    apply StepOk.intro
                    intro K hK
                    obtain ⟨a1, a2, a3, hbz⟩ := HCL.out _ (HKJ.out.trans (hwi.mono (T := fun k => S0 k ∨ N ≤ k) (fun _ h => h.elim)) (fun _ _ h => h))
                    have qm := (hwi.blk HMB.out (fun h => h)).k2
                    go_simp
                    apply hK
                    · rfl
                    · conv => (lhs; whnf)
                    · exact hwi
                  simp only [put_lit, put_none, List.set_cons_succ, List.set_cons_zero]
                  apply Oblig.cons
                  case h =>
                    intro S w1 hwi hSi hd hcl
                    apply StepOk.intro
                    intro K hK
                    obtain ⟨a1, a2, a3, hbz⟩ := HCL.out _ (HKJ.out.trans (hwi.mono (T := fun k => S0 k ∨ N ≤ k) (fun _ h => h.elim)) (fun _ _ h => h))
                    have qm := (hwi.blk HMB.out (fun h => h)).k2
                    go_simp
                    apply hK
                    · rfl
                    · conv => (lhs; whnf)
                    · exact hwi
                  simp only [put_lit, put_none, List.set_cons_succ, List.set_cons_zero]
                  apply Oblig.cons
                  case h =>
                    intro S w1 hwi hSi hd hcl
                    apply StepOk.intro
                    intro K hK
                    obtain ⟨a1, a2, a3, hbz⟩ := HCL.out _ (HKJ.out.trans (hwi.mono (T := fun k => S0 k ∨ N ≤ k) (fun _ h => h.elim)) (fun _ _ h => h))
                    have qm := (hwi.blk HMB.out (fun h => h)).k2
                    go_simp
                    apply hK
                    · rfl
                    · conv => (lhs; whnf)
                    · exact hwi
                  simp only [put_lit, put_none, List.set_cons_succ, List.set_cons_zero]
                  apply Oblig.cons
                  case h =>
                    intro S w1 hwi hSi hd hcl
                    apply StepOk.intro
                    intro K hK
                    obtain ⟨a1, a2, a3, hbz⟩ := HCL.out _ (HKJ.out.trans (hwi.mono (T := fun k => S0 k ∨ N ≤ k) (fun _ h => h.elim)) (fun _ _ h => h))
                    have qm := (hwi.blk HMB.out (fun h => h)).k2
                    go_simp
                    apply hK
                    · rfl
                    · conv => (lhs; whnf)
                    · exact hwi
                  simp only [put_lit, put_none, List.set_cons_succ, List.set_cons_zero]
                  apply Oblig.cons
                  case h =>
                    intro S w1 hwi hSi hd hcl
                    apply StepOk.intro
                    intro K hK
                    obtain ⟨a1, a2, a3, hbz⟩ := HCL.out _ (HKJ.out.trans (hwi.mono (T := fun k => S0 k ∨ N ≤ k) (fun _ h => h.elim)) (fun _ _ h => h))
                    have qm := (hwi.blk HMB.out (fun h => h)).k2
                    go_simp
                    apply hK
                    · rfl
                    · conv => (lhs; whnf)
                    · exact hwi
                  simp only [put_lit, put_none, List.set_cons_succ, List.set_cons_zero]
                  apply Oblig.cons
                  case h =>
                    intro S w1 hwi hSi hd hcl
                    apply StepOk.intro
                    intro K hK
                    obtain ⟨a1, a2, a3, hbz⟩ := HCL.out _ (HKJ.out.trans (hwi.mono (T := fun k => S0 k ∨ N ≤ k) (fun _ h => h.elim)) (fun _ _ h => h))
                    have qm := (hwi.blk HMB.out (fun h => h)).k2
                    go_simp
                    apply hK
                    · rfl
                    · conv => (lhs; whnf)
                    · exact hwi
                  simp only [put_lit, put_none, List.set_cons_succ, List.set_cons_zero]
                  apply Oblig.cons
                  case h =>
                    intro S w1 hwi hSi hd hcl
                    apply StepOk.intro
                    intro K hK
                    obtain ⟨a1, a2, a3, hbz⟩ := HCL.out _ (HKJ.out.trans (hwi.mono (T := fun k => S0 k ∨ N ≤ k) (fun _ h => h.elim)) (fun _ _ h => h))
                    have qm := (hwi.blk HMB.out (fun h => h)).k2
                    go_simp
                    apply hK
                    · rfl
                    · conv => (lhs; whnf)
                    · exact hwi
                  simp only [put_lit, put_none, List.set_cons_succ, List.set_cons_zero]
                  apply Oblig.cons
                  case h =>
                    intro S w1 hwi hSi hd hcl
                    apply StepOk.intro
                    intro K hK
                    obtain ⟨a1, a2, a3, hbz⟩ := HCL.out _ (HKJ.out.trans (hwi.mono (T := fun k => S0 k ∨ N ≤ k) (fun _ h => h.elim)) (fun _ _ h => h))
                    have qm := (hwi.blk HMB.out (fun h => h)).k2
                    go_simp
                    apply hK
                    · rfl
                    · conv => (lhs; whnf)
                    · exact hwi
                  simp only [put_lit, put_none, List.set_cons_succ, List.set_cons_zero]
                  apply Oblig.cons
                  case h =>
                    intro S w1 hwi hSi hd hcl
                    apply StepOk.intro
                    intro K hK
                    obtain ⟨a1, a2, a3, hbz⟩ := HCL.out _ (HKJ.out.trans (hwi.mono (T := fun k => S0 k ∨ N ≤ k) (fun _ h => h.elim)) (fun _ _ h => h))
                    have qm := (hwi.blk HMB.out (fun h => h)).k2
                    go_simp
                    apply hK
                    · rfl
                    · conv => (lhs; whnf)
                    · exact hwi
                  simp only [put_lit, put_none, List.set_cons_succ, List.set_cons_zero]
                  apply Oblig.cons
                  case h =>
                    intro S w1 hwi hSi hd hcl
                    apply StepOk.intro
                    intro K hK
                    obtain ⟨a1, a2, a3, hbz⟩ := HCL.out _ (HKJ.out.trans (hwi.mono (T := fun k => S0 k ∨ N ≤ k) (fun _ h => h.elim)) (fun _ _ h => h))
                    have qm := (hwi.blk HMB.out (fun h => h)).k2
                    go_simp
                    apply hK
                    · rfl
                    · conv => (lhs; whnf)
                    · exact hwi
                  simp only [put_lit, put_none, List.set_cons_succ, List.set_cons_zero]
                  apply Oblig.cons
                  case h =>
                    intro S w1 hwi hSi hd hcl
                    apply StepOk.intro
                    intro K hK
                    obtain ⟨a1, a2, a3, hbz⟩ := HCL.out _ (HKJ.out.trans (hwi.mono (T := fun k => S0 k ∨ N ≤ k) (fun _ h => h.elim)) (fun _ _ h => h))
                    have qm := (hwi.blk HMB.out (fun h => h)).k2
                    go_simp
                    apply hK
                    · rfl
                    · conv => (lhs; whnf)
                    · exact hwi
                  simp only [put_lit, put_none, List.set_cons_succ, List.set_cons_zero]
                  apply Oblig.cons
                  case h =>
                    intro S w1 hwi hSi hd hcl
                    apply StepOk.intro
                    intro K hK
                    obtain ⟨a1, a2, a3, hbz⟩ := HCL.out _ (HKJ.out.trans (hwi.mono (T := fun k => S0 k ∨ N ≤ k) (fun _ h => h.elim)) (fun _ _ h => h))
                    have qm := (hwi.blk HMB.out (fun h => h)).k2
                    go_simp
                    apply hK
                    · rfl
                    · conv => (lhs; whnf)
                    · exact hwi
                  simp only [put_lit, put_none, List.set_cons_succ, List.set_cons_zero]
                  apply Oblig.cons
                  case h =>
                    intro S w1 hwi hSi hd hcl
                    apply StepOk.intro
                    intro K hK
                    obtain ⟨a1, a2, a3, hbz⟩ := HCL.out _ (HKJ.out.trans (hwi.mono (T := fun k => S0 k ∨ N ≤ k) (fun _ h => h.elim)) (fun _ _ h => h))
                    have qm := (hwi.blk HMB.out (fun h => h)).k2
                    go_simp
                    apply hK
                    · rfl
                    · conv => (lhs; whnf)
                    · exact hwi
                  simp only [put_lit, put_none, List.set_cons_succ, List.set_cons_zero]
                  apply Oblig.cons
                  case h =>
                    intro S w1 hwi hSi hd hcl
                    apply StepOk.intro
                    intro K hK
                    obtain ⟨a1, a2, a3, hbz⟩ := HCL.out _ (HKJ.out.trans (hwi.mono (T := fun k => S0 k ∨ N ≤ k) (fun _ h => h.elim)) (fun _ _ h => h))
                    have qm := (hwi.blk HMB.out (fun h => h)).k2
                    go_simp
                    apply hK
                    · rfl
                    · conv => (lhs; whnf)
                    · exact hwi
                  simp only [put_lit, put_none, List.set_cons_succ, List.set_cons_zero]
                  apply Oblig.cons
                  case h =>
                    intro S w1 hwi hSi hd hcl
                    apply StepOk.intro
                    intro K hK
                    obtain ⟨a1, a2, a3, hbz⟩ := HCL.out _ (HKJ.out.trans (hwi.mono (T := fun k => S0 k ∨ N ≤ k) (fun _ h => h.elim)) (fun _ _ h => h))
                    have qm := (hwi.blk HMB.out (fun h => h)).k2
                    go_simp
                    apply hK
                    · rfl
                    · conv => (lhs; whnf)
                    · exact hwi
                  simp only [put_lit, put_none, List.set_cons_succ, List.set_cons_zero]
                  apply Oblig.cons
                  case h =>
                    intro S w1 hwi hSi hd hcl
                    apply StepOk.intro
                    intro K hK
                    obtain ⟨a1, a2, a3, hbz⟩ := HCL.out _ (HKJ.out.trans (hwi.mono (T := fun k => S0 k ∨ N ≤ k) (fun _ h => h.elim)) (fun _ _ h => h))
                    have qm := (hwi.blk HMB.out (fun h => h)).k2
                    go_simp
                    apply hK
                    · rfl
                    · conv => (lhs; whnf)
                    · exact hwi
                  simp only [put_lit, put_none, List.set_cons_succ, List.set_cons_zero]
                  apply Oblig.cons
                  case h =>
                    intro S w1 hwi hSi hd hcl
                    apply StepOk.intro
                    intro K hK
                    obtain ⟨a1, a2, a3, hbz⟩ := HCL.out _ (HKJ.out.trans (hwi.mono (T := fun k => S0 k ∨ N ≤ k) (fun _ h => h.elim)) (fun _ _ h => h))
                    have qm := (hwi.blk HMB.out (fun h => h)).k2
                    go_simp
                    apply hK
                    · rfl
                    · conv => (lhs; whnf)
                    · exact hwi
                  simp only [put_lit, put_none, List.set_cons_succ, List.set_cons_zero]
                  apply Oblig.cons
                  case h =>
                    intro S w1 hwi hSi hd hcl
                    apply StepOk.intro
                    intro K hK
                    obtain ⟨a1, a2, a3, hbz⟩ := HCL.out _ (HKJ.out.trans (hwi.mono (T := fun k => S0 k ∨ N ≤ k) (fun _ h => h.elim)) (fun _ _ h => h))
                    have qm := (hwi.blk HMB.out (fun h => h)).k2
                    go_simp
                    apply hK
                    · rfl
                    · conv => (lhs; whnf)
                    · exact hwi
                  simp only [put_lit, put_none, List.set_cons_succ, List.set_cons_zero]
                  apply Oblig.cons
                  case h =>
                    intro S w1 hwi hSi hd hcl
                    apply StepOk.intro
                    intro K hK
                    obtain ⟨a1, a2, a3, hbz⟩ := HCL.out _ (HKJ.out.trans (hwi.mono (T := fun k => S0 k ∨ N ≤ k) (fun _ h => h.elim)) (fun _ _ h => h))
                    have qm := (hwi.blk HMB.out (fun h => h)).k2
                    go_simp
                    apply hK
                    · rfl
                    · conv => (lhs; whnf)
                    · exact hwi
                  simp only [put_lit, put_none, List.set_cons_succ, List.set_cons_zero]
                  exact Oblig.nil
                case h0 =>
                  exact (Keep.refl _ _).drew
                case hend =>
                  intro S wx hwi hall
                  have HKX := hid (HKJ.out.trans (hwi.mono (T := fun k => S0 k ∨ N ≤ k) (fun _ h => h.elim)) (fun _ _ h => h))
                  have HSX := hid (hkeep _ _ _ _ HSJ.out hwi)
                  obtain ⟨wy, rfl⟩ : ∃ wy : World, wy = wx := ⟨_, rfl⟩
                  clear hwi hall
                  go_wp2_with fail
                  apply wp_region_text (WI := fun S wx => Keep (fun k => S0 k ∨ N ≤ k) wo wx ∧ (S 11 = false → Sys n wx (pokeAll pk len n (l.take j) t')) ∧ (S 11 = true → Sys n wx (pk (pokeAll pk len n (l.take j) t') pw.toNat px))) (by kernel_rfl) (by kernel_rfl)
                  case hob =>
                    apply Oblig.cons
                    case h =>
                      intro S w1 hwi hSi hd hcl
                      apply StepOk.intro
                      intro K hK
                      obtain ⟨a1, a2, a3, hbz⟩ := HCL.out _ hwi.1
                      go_simp
                      apply hK
                      · rfl
                      · conv => (lhs; whnf)
                      · exact hwi
                    simp only [put_lit, put_none, List.set_cons_succ, List.set_cons_zero]
                    apply Oblig.cons
                    case h =>
                      intro S w1 hwi hSi hd hcl
                      apply StepOk.intro
                      intro K hK
                      obtain ⟨a1, a2, a3, hbz⟩ := HCL.out _ hwi.1
                      go_simp
                      apply hK
                      · rfl
                      · conv => (lhs; whnf)
                      · exact hwi
                    simp only [put_lit, put_none, List.set_cons_succ, List.set_cons_zero]
                    apply Oblig.cons
                    case h =>
                      intro S w1 hwi hSi hd hcl
                      apply StepOk.intro
                      intro K hK
                      obtain ⟨a1, a2, a3, hbz⟩ := HCL.out _ hwi.1
                      go_simp
                      apply hK
                      · rfl
                      · conv => (lhs; whnf)
                      · exact hwi
                    simp only [put_lit, put_none, List.set_cons_succ, List.set_cons_zero]
                    apply Oblig.cons
                    case h =>
                      intro S w1 hwi hSi hd hcl
                      apply StepOk.intro
                      intro K hK
                      obtain ⟨a1, a2, a3, hbz⟩ := HCL.out _ hwi.1
                      go_simp
                      apply hK
                      · rfl
                      · conv => (lhs; whnf)
                      · exact hwi
                    simp only [put_lit, put_none, List.set_cons_succ, List.set_cons_zero]
                    apply Oblig.cons
                    case h =>
                      intro S w1 hwi hSi hd hcl
                      apply StepOk.intro
                      intro K hK
                      obtain ⟨a1, a2, a3, hbz⟩ := HCL.out _ hwi.1
                      go_simp
                      apply hK
                      · rfl
                      · conv => (lhs; whnf)
                      · exact hwi
                    simp only [put_lit, put_none, List.set_cons_succ, List.set_cons_zero]
                    apply Oblig.cons
                    case h =>
                      intro S w1 hwi hSi hd hcl
                      apply StepOk.intro
                      intro K hK
                      obtain ⟨a1, a2, a3, hbz⟩ := HCL.out _ hwi.1
                      go_simp
                      apply hK
                      · rfl
                      · conv => (lhs; whnf)
                      · exact hwi
                    simp only [put_lit, put_none, List.set_cons_succ, List.set_cons_zero]
                    apply Oblig.cons
                    case h =>
                      intro S w1 hwi hSi hd hcl
                      apply StepOk.intro
                      intro K hK
                      obtain ⟨a1, a2, a3, hbz⟩ := HCL.out _ hwi.1
                      go_simp
                      apply hK
                      · rfl
                      · conv => (lhs; whnf)
                      · exact hwi
                    simp only [put_lit, put_none, List.set_cons_succ, List.set_cons_zero]
                    apply Oblig.cons
                    case h =>
                      intro S w1 hwi hSi hd hcl
                      apply StepOk.intro
                      intro K hK
                      obtain ⟨a1, a2, a3, hbz⟩ := HCL.out _ hwi.1
                      go_simp
                      apply hK
                      · rfl
                      · conv => (lhs; whnf)
                      · exact hwi
                    simp only [put_lit, put_none, List.set_cons_succ, List.set_cons_zero]
                    apply Oblig.cons
                    case h =>
                      intro S w1 hwi hSi hd hcl
                      apply StepOk.intro
                      intro K hK
                      obtain ⟨a1, a2, a3, hbz⟩ := HCL.out _ hwi.1
                      go_simp
                      apply hK
                      · rfl
                      · conv => (lhs; whnf)
                      · exact hwi
                    simp only [put_lit, put_none, List.set_cons_succ, List.set_cons_zero]
                    apply Oblig.cons
                    case h =>
                      intro S w1 hwi hSi hd hcl
                      apply StepOk.intro
                      intro K hK
                      obtain ⟨a1, a2, a3, hbz⟩ := HCL.out _ hwi.1
                      go_simp
                      apply hK
                      · rfl
                      · conv => (lhs; whnf)
                      · exact hwi
                    simp only [put_lit, put_none, List.set_cons_succ, List.set_cons_zero]
                    apply Oblig.cons
                    case h =>
                      intro S w1 hwi hSi hd hcl
                      apply StepOk.intro
                      intro K hK
                      obtain ⟨a1, a2, a3, hbz⟩ := HCL.out _ hwi.1
                      go_simp
                      apply hK
                      · rfl
                      · conv => (lhs; whnf)
                      · exact hwi
                    simp only [put_lit, put_none, List.set_cons_succ, List.set_cons_zero]
                    apply Oblig.cons
                    case h =>
                      intro S w1 hwi hSi hd hcl
                      apply StepOk.intro
                      intro K hK
                      obtain ⟨a1, a2, a3, hbz⟩ := HCL.out _ hwi.1
                      go_simp
                      refine (hpoke n _ _ pw px HIN.out (hwi.2.1 hSi) hB hC).mono ?_
                      rintro e w2 ⟨rfl, hs2, hk2⟩
                      apply hK
                      · rfl
                      · conv => (lhs; whnf)
                      · exact ⟨hwi.1.trans hk2 (fun _ _ h => h), fun h => by simp [upd] at h, fun _ => hs2⟩
                    simp only [put_lit, put_none, List.set_cons_succ, List.set_cons_zero]
                    exact Oblig.nil
                  case h0 =>
                    exact ⟨HKX.out.drew, fun _ => hkeep _ _ _ _ HSX.out (Keep.refl (fun _ => False) _).drew, fun h => by cases h⟩
                  case hend =>
                    intro S wx hwi hall
                    have HSZ := hid (hwi.2.2 (hall 11 (by decide)))
                    have HKZ := hid hwi.1
                    clear hwi hall
                    go_wp2_with fail
                    go_roundw
                    case rel => exact ⟨j + 1, by omega, by go_num, by rw [HN.out, if_pos ⟨HA.out, hB, hC⟩]; exact HSZ.out, HKZ.out⟩
                    case measure => simp [intOf]; omega
              · have g3 : decide (pw < (len : Int)) = false := by simpa using hC
                have HNN := hid (fun h : pa = n ∧ 0 ≤ pw ∧ pw < (len : Int) => hC h.2.2)
                go_wp2_with fail
                apply wp_region_text (WI := fun S wx => Keep0 wr wx) (by kernel_rfl) (by kernel_rfl)
                case hob =>
                  apply Oblig.cons
                  case h =>
                    intro S w1 hwi hSi hd hcl
                    apply StepOk.intro
                    intro K hK
                    obtain ⟨a1, a2, a3, hbz⟩ := HCL.out _ (HKJ.out.trans (hwi.mono (T := fun k => S0 k ∨ N ≤ k) (fun _ h => h.elim)) (fun _ _ h => h))
                    have qm := (hwi.blk HMB.out (fun h => h)).k2
                    go_simp
                    apply hK
                    · rfl
                    · conv => (lhs; whnf)
                    · exact hwi
                  simp only [put_lit, put_none, List.set_cons_succ, List.set_cons_zero]
                  apply Oblig.cons
                  case h =>
                    intro S w1 hwi hSi hd hcl
                    apply StepOk.intro
                    intro K hK
                    obtain ⟨a1, a2, a3, hbz⟩ := HCL.out _ (HKJ.out.trans (hwi.mono (T := fun k => S0 k ∨ N ≤ k) (fun _ h => h.elim)) (fun _ _ h => h))
                    have qm := (hwi.blk HMB.out (fun h => h)).k2
                    go_simp
                    apply hK
                    · rfl
                    · conv => (lhs; whnf)
                    · exact hwi
                  simp only [put_lit, put_none, List.set_cons_succ, List.set_cons_zero]
                  apply Oblig.cons
                  case h =>
                    intro S w1 hwi hSi hd hcl
                    apply StepOk.intro
                    intro K hK
                    obtain ⟨a1, a2, a3, hbz⟩ := HCL.out _ (HKJ.out.trans (hwi.mono (T := fun k => S0 k ∨ N ≤ k) (fun _ h => h.elim)) (fun _ _ h => h))
                    have qm := (hwi.blk HMB.out (fun h => h)).k2
                    go_simp
                    apply hK
                    · rfl
                    · conv => (lhs; whnf)
                    · exact hwi
                  simp only [put_lit, put_none, List.set_cons_succ, List.set_cons_zero]
                  apply Oblig.cons
                  case h =>
                    intro S w1 hwi hSi hd hcl
                    apply StepOk.intro
                    intro K hK
                    obtain ⟨a1, a2, a3, hbz⟩ := HCL.out _ (HKJ.out.trans (hwi.mono (T := fun k => S0 k ∨ N ≤ k) (fun _ h => h.elim)) (fun _ _ h => h))
                    have qm := (hwi.blk HMB.out (fun h => h)).k2
                    go_simp
                    apply hK
                    · rfl
                    · conv => (lhs; whnf)
                    · exact hwi
                  simp only [put_lit, put_none, List.set_cons_succ, List.set_cons_zero]
                  apply Oblig.cons
                  case h =>
                    intro S w1 hwi hSi hd hcl
                    apply StepOk.intro
                    intro K hK
                    obtain ⟨a1, a2, a3, hbz⟩ := HCL.out _ (HKJ.out.trans (hwi.mono (T := fun k => S0 k ∨ N ≤ k) (fun _ h => h.elim)) (fun _ _ h => h))
                    have qm := (hwi.blk HMB.out (fun h => h)).k2
                    go_simp
                    apply hK
                    · rfl
                    · conv => (lhs; whnf)
                    · exact hwi
                  simp only [put_lit, put_none, List.set_cons_succ, List.set_cons_zero]
                  apply Oblig.cons
                  case h =>
                    intro S w1 hwi hSi hd hcl
                    apply StepOk.intro
                    intro K hK
                    obtain ⟨a1, a2, a3, hbz⟩ := HCL.out _ (HKJ.out.trans (hwi.mono (T := fun k => S0 k ∨ N ≤ k) (fun _ h => h.elim)) (fun _ _ h => h))
                    have qm := (hwi.blk HMB.out (fun h => h)).k2
                    go_simp
                    apply hK
                    · rfl
                    · conv => (lhs; whnf)
                    · exact hwi
                  simp only [put_lit, put_none, List.set_cons_succ, List.set_cons_zero]
                  apply Oblig.cons
                  case h =>
                    intro S w1 hwi hSi hd hcl
                    apply StepOk.intro
                    intro K hK
                    obtain ⟨a1, a2, a3, hbz⟩ := HCL.out _ (HKJ.out.trans (hwi.mono (T := fun k => S0 k ∨ N ≤ k) (fun _ h => h.elim)) (fun _ _ h => h))
                    have qm := (hwi.blk HMB.out (fun h => h)).k2
                    go_simp
                    apply hK
                    · rfl
                    · conv => (lhs; whnf)
                    · exact hwi
                  simp only [put_lit, put_none, List.set_cons_succ, List.set_cons_zero]
                  apply Oblig.cons
                  case h =>
                    intro S w1 hwi hSi hd hcl
                    apply StepOk.intro
                    intro K hK
                    obtain ⟨a1, a2, a3, hbz⟩ := HCL.out _ (HKJ.out.trans (hwi.mono (T := fun k => S0 k ∨ N ≤ k) (fun _ h => h.elim)) (fun _ _ h => h))
                    have qm := (hwi.blk HMB.out (fun h => h)).k2
                    go_simp
                    apply hK
                    · rfl
                    · conv => (lhs; whnf)
                    · exact hwi
                  simp only [put_lit, put_none, List.set_cons_succ, List.set_cons_zero]
                  apply Oblig.cons
                  case h =>
                    intro S w1 hwi hSi hd hcl
                    apply StepOk.intro
                    intro K hK
                    obtain ⟨a1, a2, a3, hbz⟩ := HCL.out _ (HKJ.out.trans (hwi.mono (T := fun k => S0 k ∨ N ≤ k) (fun _ h => h.elim)) (fun _ _ h => h))
                    have qm := (hwi.blk HMB.out (fun h => h)).k2
                    go_simp
                    apply hK
                    · rfl
                    · conv => (lhs; whnf)
                    · exact hwi
                  simp only [put_lit, put_none, List.set_cons_succ, List.set_cons_zero]
                  apply Oblig.cons
                  case h =>
                    intro S w1 hwi hSi hd hcl
                    apply StepOk.intro
                    intro K hK
                    obtain ⟨a1, a2, a3, hbz⟩ := HCL.out _ (HKJ.out.trans (hwi.mono (T := fun k => S0 k ∨ N ≤ k) (fun _ h => h.elim)) (fun _ _ h => h))
                    have qm := (hwi.blk HMB.out (fun h => h)).k2
                    go_simp
                    apply hK
                    · rfl
                    · conv => (lhs; whnf)
                    · exact hwi
                  simp only [put_lit, put_none, List.set_cons_succ, List.set_cons_zero]
                  apply Oblig.cons
                  case h =>
                    intro S w1 hwi hSi hd hcl
                    apply StepOk.intro
                    intro K hK
                    obtain ⟨a1, a2, a3, hbz⟩ := HCL.out _ (HKJ.out.trans (hwi.mono (T := fun k => S0 k ∨ N ≤ k) (fun _ h => h.elim)) (fun _ _ h => h))
                    have qm := (hwi.blk HMB.out (fun h => h)).k2
                    go_simp
                    apply hK
                    · rfl
                    · conv => (lhs; whnf)
                    · exact hwi
                  simp only [put_lit, put_none, List.set_cons_succ, List.set_cons_zero]
                  apply Oblig.cons
                  case h =>
                    intro S w1 hwi hSi hd hcl
                    apply StepOk.intro
                    intro K hK
                    obtain ⟨a1, a2, a3, hbz⟩ := HCL.out _ (HKJ.out.trans (hwi.mono (T := fun k => S0 k ∨ N ≤ k) (fun _ h => h.elim)) (fun _ _ h => h))
                    have qm := (hwi.blk HMB.out (fun h => h)).k2
                    go_simp
                    apply hK
                    · rfl
                    · conv => (lhs; whnf)
                    · exact hwi
                  simp only [put_lit, put_none, List.set_cons_succ, List.set_cons_zero]
                  apply Oblig.cons
                  case h =>
                    intro S w1 hwi hSi hd hcl
                    apply StepOk.intro
                    intro K hK
                    obtain ⟨a1, a2, a3, hbz⟩ := HCL.out _ (HKJ.out.trans (hwi.mono (T := fun k => S0 k ∨ N ≤ k) (fun _ h => h.elim)) (fun _ _ h => h))
                    have qm := (hwi.blk HMB.out (fun h => h)).k2
                    go_simp
                    apply hK
                    · rfl
                    · conv => (lhs; whnf)
                    · exact hwi
                  simp only [put_lit, put_none, List.set_cons_succ, List.set_cons_zero]
                  apply Oblig.cons
                  case h =>
                    intro S w1 hwi hSi hd hcl
                    apply StepOk.intro
                    intro K hK
                    obtain ⟨a1, a2, a3, hbz⟩ := HCL.out _ (HKJ.out.trans (hwi.mono (T := fun k => S0 k ∨ N ≤ k) (fun _ h => h.elim)) (fun _ _ h => h))
                    have qm := (hwi.blk HMB.out (fun h => h)).k2
                    go_simp
                    apply hK
                    · rfl
                    · conv => (lhs; whnf)
                    · exact hwi
                  simp only [put_lit, put_none, List.set_cons_succ, List.set_cons_zero]
                  apply Oblig.cons
                  case h =>
                    intro S w1 hwi hSi hd hcl
                    apply StepOk.intro
                    intro K hK
                    obtain ⟨a1, a2, a3, hbz⟩ := HCL.out _ (HKJ.out.trans (hwi.mono (T := fun k => S0 k ∨ N ≤ k) (fun _ h => h.elim)) (fun _ _ h => h))
                    have qm := (hwi.blk HMB.out (fun h => h)).k2
                    go_simp
                    apply hK
                    · rfl
                    · conv => (lhs; whnf)
                    · exact hwi
                  simp only [put_lit, put_none, List.set_cons_succ, List.set_cons_zero]
                  apply Oblig.cons
                  case h =>
                    intro S w1 hwi hSi hd hcl
                    apply StepOk.intro
                    intro K hK
                    obtain ⟨a1, a2, a3, hbz⟩ := HCL.out _ (HKJ.out.trans (hwi.mono (T := fun k => S0 k ∨ N ≤ k) (fun _ h => h.elim)) (fun _ _ h => h))
                    have qm := (hwi.blk HMB.out (fun h => h)).k2
                    go_simp
                    apply hK
                    · rfl
                    · conv => (lhs; whnf)
                    · exact hwi
                  simp only [put_lit, put_none, List.set_cons_succ, List.set_cons_zero]
                  apply Oblig.cons
                  case h =>
                    intro S w1 hwi hSi hd hcl
                    apply StepOk.intro
                    intro K hK
                    obtain ⟨a1, a2, a3, hbz⟩ := HCL.out _ (HKJ.out.trans (hwi.mono (T := fun k => S0 k ∨ N ≤ k) (fun _ h => h.elim)) (fun _ _ h => h))
                    have qm := (hwi.blk HMB.out (fun h => h)).k2
                    go_simp
                    apply hK
                    · rfl
                    · conv => (lhs; whnf)
                    · exact hwi
                  simp only [put_lit, put_none, List.set_cons_succ, List.set_cons_zero]
                  apply Oblig.cons
                  case h =>
                    intro S w1 hwi hSi hd hcl
                    apply StepOk.intro
                    intro K hK
                    obtain ⟨a1, a2, a3, hbz⟩ := HCL.out _ (HKJ.out.trans (hwi.mono (T := fun k => S0 k ∨ N ≤ k) (fun _ h => h.elim)) (fun _ _ h => h))
                    have qm := (hwi.blk HMB.out (fun h => h)).k2
                    go_simp
                    apply hK
                    · rfl
                    · conv => (lhs; whnf)
                    · exact hwi
                  simp only [put_lit, put_none, List.set_cons_succ, List.set_cons_zero]
                  apply Oblig.cons
                  case h =>
                    intro S w1 hwi hSi hd hcl
                    apply StepOk.intro
                    intro K hK
                    obtain ⟨a1, a2, a3, hbz⟩ := HCL.out _ (HKJ.out.trans (hwi.mono (T := fun k => S0 k ∨ N ≤ k) (fun _ h => h.elim)) (fun _ _ h => h))
                    have qm := (hwi.blk HMB.out (fun h => h)).k2
                    go_simp
                    apply hK
                    · rfl
                    · conv => (lhs; whnf)
                    · exact hwi
                  simp only [put_lit, put_none, List.set_cons_succ, List.set_cons_zero]
                  apply Oblig.cons
                  case h =>
                    intro S w1 hwi hSi hd hcl
                    apply StepOk.intro
                    intro K hK
                    obtain ⟨a1, a2, a3, hbz⟩ := HCL.out _ (HKJ.out.trans (hwi.mono (T := fun k => S0 k ∨ N ≤ k) (fun _ h => h.elim)) (fun _ _ h => h))
                    have qm := (hwi.blk HMB.out (fun h => h)).k2
                    go_simp
                    apply hK
                    · rfl
                    · conv => (lhs; whnf)
                    · exact hwi
                  simp only [put_lit, put_none, List.set_cons_succ, List.set_cons_zero]
                  apply Oblig.cons
                  case h =>
                    intro S w1 hwi hSi hd hcl
                    apply StepOk.intro
                    intro K hK
                    obtain ⟨a1, a2, a3, hbz⟩ := HCL.out _ (HKJ.out.trans (hwi.mono (T := fun k => S0 k ∨ N ≤ k) (fun _ h => h.elim)) (fun _ _ h => h))
                    have qm := (hwi.blk HMB.out (fun h => h)).k2
                    go_simp
                    apply hK
                    · rfl
                    · conv => (lhs; whnf)
                    · exact hwi
                  simp only [put_lit, put_none, List.set_cons_succ, List.set_cons_zero]
                  apply Oblig.cons
                  case h =>
                    intro S w1 hwi hSi hd hcl
                    apply StepOk.intro
                    intro K hK
                    obtain ⟨a1, a2, a3, hbz⟩ := HCL.out _ (HKJ.out.trans (hwi.mono (T := fun k => S0 k ∨ N ≤ k) (fun _ h => h.elim)) (fun _ _ h => h))
                    have qm := (hwi.blk HMB.out (fun h => h)).k2
                    go_simp
                    apply hK
                    · rfl
                    · conv => (lhs; whnf)
                    · exact hwi
                  simp only [put_lit, put_none, List.set_cons_succ, List.set_cons_zero]
                  apply Oblig.cons
                  case h =>
                    intro S w1 hwi hSi hd hcl
                    apply StepOk.intro
                    intro K hK
                    obtain ⟨a1, a2, a3, hbz⟩ := HCL.out _ (HKJ.out.trans (hwi.mono (T := fun k => S0 k ∨ N ≤ k) (fun _ h => h.elim)) (fun _ _ h => h))
                    have qm := (hwi.blk HMB.out (fun h => h)).k2
                    go_simp
                    apply hK
                    · rfl
                    · conv => (lhs; whnf)
                    · exact hwi
                  simp only [put_lit, put_none, List.set_cons_succ, List.set_cons_zero]
                  apply Oblig.cons
                  case h =>
                    intro S w1 hwi hSi hd hcl
                    apply StepOk.intro
                    intro K hK
                    obtain ⟨a1, a2, a3, hbz⟩ := HCL.out _ (HKJ.out.trans (hwi.mono (T := fun k => S0 k ∨ N ≤ k) (fun _ h => h.elim)) (fun _ _ h => h))
                    have qm := (hwi.blk HMB.out (fun h => h)).k2
                    go_simp
                    apply hK
                    · rfl
                    · conv => (lhs; whnf)
                    · exact hwi
                  simp only [put_lit, put_none, List.set_cons_succ, List.set_cons_zero]
                  apply Oblig.cons
                  case h =>
                    intro S w1 hwi hSi hd hcl
                    apply StepOk.intro
                    intro K hK
                    obtain ⟨a1, a2, a3, hbz⟩ := HCL.out _ (HKJ.out.trans (hwi.mono (T := fun k => S0 k ∨ N ≤ k) (fun _ h => h.elim)) (fun _ _ h => h))
                    have qm := (hwi.blk HMB.out (fun h => h)).k2
                    go_simp
                    apply hK
                    · rfl
                    · conv => (lhs; whnf)
                    · exact hwi
                  simp only [put_lit, put_none, List.set_cons_succ, List.set_cons_zero]
                  apply Oblig.cons
                  case h =>
                    intro S w1 hwi hSi hd hcl
                    apply StepOk.intro
                    intro K hK
                    obtain ⟨a1, a2, a3, hbz⟩ := HCL.out _ (HKJ.out.trans (hwi.mono (T := fun k => S0 k ∨ N ≤ k) (fun _ h => h.elim)) (fun _ _ h => h))
                    have qm := (hwi.blk HMB.out (fun h => h)).k2
                    go_simp
                    apply hK
                    · rfl
                    · conv => (lhs; whnf)
                    · exact hwi
                  simp only [put_lit, put_none, List.set_cons_succ, List.set_cons_zero]
                  apply Oblig.cons
                  case h =>
                    intro S w1 hwi hSi hd hcl
                    apply StepOk.intro
                    intro K hK
                    obtain ⟨a1, a2, a3, hbz⟩ := HCL.out _ (HKJ.out.trans (hwi.mono (T := fun k => S0 k ∨ N ≤ k) (fun _ h => h.elim)) (fun _ _ h => h))
                    have qm := (hwi.blk HMB.out (fun h => h)).k2
                    go_simp
                    apply hK
                    · rfl
                    · conv => (lhs; whnf)
                    · exact hwi
                  simp only [put_lit, put_none, List.set_cons_succ, List.set_cons_zero]
                  apply Oblig.cons
                  case h =>
                    intro S w1 hwi hSi hd hcl
                    apply StepOk.intro
                    intro K hK
                    obtain ⟨a1, a2, a3, hbz⟩ := HCL.out _ (HKJ.out.trans (hwi.mono (T := fun k => S0 k ∨ N ≤ k) (fun _ h => h.elim)) (fun _ _ h => h))
                    have qm := (hwi.blk HMB.out (fun h => h)).k2
                    go_simp
                    apply hK
                    · rfl
                    · conv => (lhs; whnf)
                    · exact hwi
                  simp only [put_lit, put_none, List.set_cons_succ, List.set_cons_zero]
                  exact Oblig.nil
                case h0 =>
                  exact (Keep.refl _ _).drew
                case hend =>
                  intro S wx hwi hall
                  have HKX := hid (HKJ.out.trans (hwi.mono (T := fun k => S0 k ∨ N ≤ k) (fun _ h => h.elim)) (fun _ _ h => h))
                  have HSX := hid (hkeep _ _ _ _ HSJ.out hwi)
                  obtain ⟨wy, rfl⟩ : ∃ wy : World, wy = wx := ⟨_, rfl⟩
                  clear hwi hall
                  go_wp2_with fail
                  go_roundw
                  case rel => exact ⟨j + 1, by omega, by go_num, by rw [HN.out, if_neg HNN.out]; exact HSX.out, HKX.out⟩
                  case measure => simp [intOf]; omega
            · have g2 : decide (0 ≤ pw) = false := by simpa using hB
              have HNN := hid (fun h : pa = n ∧ 0 ≤ pw ∧ pw < (len : Int) => hB h.2.1)
              go_wp2_with fail
              apply wp_region_text (WI := fun S wx => Keep0 wr wx) (by kernel_rfl) (by kernel_rfl)
              case hob =>
                apply Oblig.cons
                case h =>
                  intro S w1 hwi hSi hd hcl
                  apply StepOk.intro
                  intro K hK
                  obtain ⟨a1, a2, a3, hbz⟩ := HCL.out _ (HKJ.out.trans (hwi.mono (T := fun k => S0 k ∨ N ≤ k) (fun _ h => h.elim)) (fun _ _ h => h))
                  have qm := (hwi.blk HMB.out (fun h => h)).k2
                  go_simp
                  apply hK
                  · rfl
                  · conv => (lhs; whnf)
                  · exact hwi
                simp only [put_lit, put_none, List.set_cons_succ, List.set_cons_zero]
                apply Oblig.cons
                case h =>
                  intro S w1 hwi hSi hd hcl
                  apply StepOk.intro
                  intro K hK
                  obtain ⟨a1, a2, a3, hbz⟩ := HCL.out _ (HKJ.out.trans (hwi.mono (T := fun k => S0 k ∨ N ≤ k) (fun _ h => h.elim)) (fun _ _ h => h))
                  have qm := (hwi.blk HMB.out (fun h => h)).k2
                  go_simp
                  apply hK
                  · rfl
                  · conv => (lhs; whnf)
                  · exact hwi
                simp only [put_lit, put_none, List.set_cons_succ, List.set_cons_zero]
                apply Oblig.cons
                case h =>
                  intro S w1 hwi hSi hd hcl
                  apply StepOk.intro
                  intro K hK
                  obtain ⟨a1, a2, a3, hbz⟩ := HCL.out _ (HKJ.out.trans (hwi.mono (T := fun k => S0 k ∨ N ≤ k) (fun _ h => h.elim)) (fun _ _ h => h))
                  have qm := (hwi.blk HMB.out (fun h => h)).k2
                  go_simp
                  apply hK
                  · rfl
                  · conv => (lhs; whnf)
                  · exact hwi
                simp only [put_lit, put_none, List.set_cons_succ, List.set_cons_zero]
                apply Oblig.cons
                case h =>
                  intro S w1 hwi hSi hd hcl
                  apply StepOk.intro
                  intro K hK
                  obtain ⟨a1, a2, a3, hbz⟩ := HCL.out _ (HKJ.out.trans (hwi.mono (T := fun k => S0 k ∨ N ≤ k) (fun _ h => h.elim)) (fun _ _ h => h))
                  have qm := (hwi.blk HMB.out (fun h => h)).k2
                  go_simp
                  apply hK
                  · rfl
                  · conv => (lhs; whnf)
                  · exact hwi
                simp only [put_lit, put_none, List.set_cons_succ, List.set_cons_zero]
                apply Oblig.cons
                case h =>
                  intro S w1 hwi hSi hd hcl
                  apply StepOk.intro
                  intro K hK
                  obtain ⟨a1, a2, a3, hbz⟩ := HCL.out _ (HKJ.out.trans (hwi.mono (T := fun k => S0 k ∨ N ≤ k) (fun _ h => h.elim)) (fun _ _ h => h))
                  have qm := (hwi.blk HMB.out (fun h => h)).k2
                  go_simp
                  apply hK
                  · rfl
                  · conv => (lhs; whnf)
                  · exact hwi
                simp only [put_lit, put_none, List.set_cons_succ, List.set_cons_zero]
                apply Oblig.cons
                case h =>
                  intro S w1 hwi hSi hd hcl
                  apply StepOk.intro
                  intro K hK
                  obtain ⟨a1, a2, a3, hbz⟩ := HCL.out _ (HKJ.out.trans (hwi.mono (T := fun k => S0 k ∨ N ≤ k) (fun _ h => h.elim)) (fun _ _ h => h))
                  have qm := (hwi.blk HMB.out (fun h => h)).k2
                  go_simp
                  apply hK
                  · rfl
                  · conv => (lhs; whnf)
                  · exact hwi
                simp only [put_lit, put_none, List.set_cons_succ, List.set_cons_zero]
                apply Oblig.cons
                case h =>
                  intro S w1 hwi hSi hd hcl
                  apply StepOk.intro
                  intro K hK
                  obtain ⟨a1, a2, a3, hbz⟩ := HCL.out _ (HKJ.out.trans (hwi.mono (T := fun k => S0 k ∨ N ≤ k) (fun _ h => h.elim)) (fun _ _ h => h))
                  have qm := (hwi.blk HMB.out (fun h => h)).k2
                  go_simp
                  apply hK
                  · rfl
                  · conv => (lhs; whnf)
                  · exact hwi
                simp only [put_lit, put_none, List.set_cons_succ, List.set_cons_zero]
                apply Oblig.cons
                case h =>
                  intro S w1 hwi hSi hd hcl
                  apply StepOk.intro
                  intro K hK
                  obtain ⟨a1, a2, a3, hbz⟩ := HCL.out _ (HKJ.out.trans (hwi.mono (T := fun k => S0 k ∨ N ≤ k) (fun _ h => h.elim)) (fun _ _ h => h))
                  have qm := (hwi.blk HMB.out (fun h => h)).k2
                  go_simp
                  apply hK
                  · rfl
                  · conv => (lhs; whnf)
                  · exact hwi
                simp only [put_lit, put_none, List.set_cons_succ, List.set_cons_zero]
                apply Oblig.cons
                case h =>
                  intro S w1 hwi hSi hd hcl
                  apply StepOk.intro
                  intro K hK
                  obtain ⟨a1, a2, a3, hbz⟩ := HCL.out _ (HKJ.out.trans (hwi.mono (T := fun k => S0 k ∨ N ≤ k) (fun _ h => h.elim)) (fun _ _ h => h))
                  have qm := (hwi.blk HMB.out (fun h => h)).k2
                  go_simp
                  apply hK
                  · rfl
                  · conv => (lhs; whnf)
                  · exact hwi
                simp only [put_lit, put_none, List.set_cons_succ, List.set_cons_zero]
                apply Oblig.cons
                case h =>
                  intro S w1 hwi hSi hd hcl
                  apply StepOk.intro
                  intro K hK
                  obtain ⟨a1, a2, a3, hbz⟩ := HCL.out _ (HKJ.out.trans (hwi.mono (T := fun k => S0 k ∨ N ≤ k) (fun _ h => h.elim)) (fun _ _ h => h))
                  have qm := (hwi.blk HMB.out (fun h => h)).k2
                  go_simp
                  apply hK
                  · rfl
                  · conv => (lhs; whnf)
                  · exact hwi
                simp only [put_lit, put_none, List.set_cons_succ, List.set_cons_zero]
                apply Oblig.cons
                case h =>
                  intro S w1 hwi hSi hd hcl
                  apply StepOk.intro
                  intro K hK
                  obtain ⟨a1, a2, a3, hbz⟩ := HCL.out _ (HKJ.out.trans (hwi.mono (T := fun k => S0 k ∨ N ≤ k) (fun _ h => h.elim)) (fun _ _ h => h))
                  have qm := (hwi.blk HMB.out (fun h => h)).k2
                  go_simp
                  apply hK
                  · rfl
                  · conv => (lhs; whnf)
                  · exact hwi
                simp only [put_lit, put_none, List.set_cons_succ, List.set_cons_zero]
                apply Oblig.cons
                case h =>
                  intro S w1 hwi hSi hd hcl
                  apply StepOk.intro
                  intro K hK
                  obtain ⟨a1, a2, a3, hbz⟩ := HCL.out _ (HKJ.out.trans (hwi.mono (T := fun k => S0 k ∨ N ≤ k) (fun _ h => h.elim)) (fun _ _ h => h))
                  have qm := (hwi.blk HMB.out (fun h => h)).k2
                  go_simp
                  apply hK
                  · rfl
                  · conv => (lhs; whnf)
                  · exact hwi
                simp only [put_lit, put_none, List.set_cons_succ, List.set_cons_zero]
                apply Oblig.cons
                case h =>
                  intro S w1 hwi hSi hd hcl
                  apply StepOk.intro
                  intro K hK
                  obtain ⟨a1, a2, a3, hbz⟩ := HCL.out _ (HKJ.out.trans (hwi.mono (T := fun k => S0 k ∨ N ≤ k) (fun _ h => h.elim)) (fun _ _ h => h))
                  have qm := (hwi.blk HMB.out (fun h => h)).k2
                  go_simp
                  apply hK
                  · rfl
                  · conv => (lhs; whnf)
                  · exact hwi
                simp only [put_lit, put_none, List.set_cons_succ, List.set_cons_zero]
                apply Oblig.cons
                case h =>
                  intro S w1 hwi hSi hd hcl
                  apply StepOk.intro
                  intro K hK
                  obtain ⟨a1, a2, a3, hbz⟩ := HCL.out _ (HKJ.out.trans (hwi.mono (T := fun k => S0 k ∨ N ≤ k) (fun _ h => h.elim)) (fun _ _ h => h))
                  have qm := (hwi.blk HMB.out (fun h => h)).k2
                  go_simp
                  apply hK
                  · rfl
                  · conv => (lhs; whnf)
                  · exact hwi
                simp only [put_lit, put_none, List.set_cons_succ, List.set_cons_zero]
                apply Oblig.cons
                case h =>
                  intro S w1 hwi hSi hd hcl
                  apply StepOk.intro
                  intro K hK
                  obtain ⟨a1, a2, a3, hbz⟩ := HCL.out _ (HKJ.out.trans (hwi.mono (T := fun k => S0 k ∨ N ≤ k) (fun _ h => h.elim)) (fun _ _ h => h))
                  have qm := (hwi.blk HMB.out (fun h => h)).k2
                  go_simp
                  apply hK
                  · rfl
                  · conv => (lhs; whnf)
                  · exact hwi
                simp only [put_lit, put_none, List.set_cons_succ, List.set_cons_zero]
                apply Oblig.cons
                case h =>
                  intro S w1 hwi hSi hd hcl
                  apply StepOk.intro
                  intro K hK
                  obtain ⟨a1, a2, a3, hbz⟩ := HCL.out _ (HKJ.out.trans (hwi.mono (T := fun k => S0 k ∨ N ≤ k) (fun _ h => h.elim)) (fun _ _ h => h))
                  have qm := (hwi.blk HMB.out (fun h => h)).k2
                  go_simp
                  apply hK
                  · rfl
                  · conv => (lhs; whnf)
                  · exact hwi
                simp only [put_lit, put_none, List.set_cons_succ, List.set_cons_zero]
                apply Oblig.cons
                case h =>
                  intro S w1 hwi hSi hd hcl
                  apply StepOk.intro
                  intro K hK
                  obtain ⟨a1, a2, a3, hbz⟩ := HCL.out _ (HKJ.out.trans (hwi.mono (T := fun k => S0 k ∨ N ≤ k) (fun _ h => h.elim)) (fun _ _ h => h))
                  have qm := (hwi.blk HMB.out (fun h => h)).k2
                  go_simp
                  apply hK
                  · rfl
                  · conv => (lhs; whnf)
                  · exact hwi
                simp only [put_lit, put_none, List.set_cons_succ, List.set_cons_zero]
                apply Oblig.cons
                case h =>
                  intro S w1 hwi hSi hd hcl
                  apply StepOk.intro
                  intro K hK
                  obtain ⟨a1, a2, a3, hbz⟩ := HCL.out _ (HKJ.out.trans (hwi.mono (T := fun k => S0 k ∨ N ≤ k) (fun _ h => h.elim)) (fun _ _ h => h))
                  have qm := (hwi.blk HMB.out (fun h => h)).k2
                  go_simp
                  apply hK
                  · rfl
                  · conv => (lhs; whnf)
                  · exact hwi
                simp only [put_lit, put_none, List.set_cons_succ, List.set_cons_zero]
                apply Oblig.cons
                case h =>
                  intro S w1 hwi hSi hd hcl
                  apply StepOk.intro
                  intro K hK
                  obtain ⟨a1, a2, a3, hbz⟩ := HCL.out _ (HKJ.out.trans (hwi.mono (T := fun k => S0 k ∨ N ≤ k) (fun _ h => h.elim)) (fun _ _ h => h))
                  have qm := (hwi.blk HMB.out (fun h => h)).k2
                  go_simp
                  apply hK
                  · rfl
                  · conv => (lhs; whnf)
                  · exact hwi
                simp only [put_lit, put_none, List.set_cons_succ, List.set_cons_zero]
                apply Oblig.cons
                case h =>
                  intro S w1 hwi hSi hd hcl
                  apply StepOk.intro
                  intro K hK
                  obtain ⟨a1, a2, a3, hbz⟩ := HCL.out _ (HKJ.out.trans (hwi.mono (T := fun k => S0 k ∨ N ≤ k) (fun _ h => h.elim)) (fun _ _ h => h))
                  have qm := (hwi.blk HMB.out (fun h => h)).k2
                  go_simp
                  apply hK
                  · rfl
                  · conv => (lhs; whnf)
                  · exact hwi
                simp only [put_lit, put_none, List.set_cons_succ, List.set_cons_zero]
                apply Oblig.cons
                case h =>
                  intro S w1 hwi hSi hd hcl
                  apply StepOk.intro
                  intro K hK
                  obtain ⟨a1, a2, a3, hbz⟩ := HCL.out _ (HKJ.out.trans (hwi.mono (T := fun k => S0 k ∨ N ≤ k) (fun _ h => h.elim)) (fun _ _ h => h))
                  have qm := (hwi.blk HMB.out (fun h => h)).k2
                  go_simp
                  apply hK
                  · rfl
                  · conv => (lhs; whnf)
                  · exact hwi
                simp only [put_lit, put_none, List.set_cons_succ, List.set_cons_zero]
                apply Oblig.cons
                case h =>
                  intro S w1 hwi hSi hd hcl
                  apply StepOk.intro
                  intro K hK
                  obtain ⟨a1, a2, a3, hbz⟩ := HCL.out _ (HKJ.out.trans (hwi.mono (T := fun k => S0 k ∨ N ≤ k) (fun _ h => h.elim)) (fun _ _ h => h))
                  have qm := (hwi.blk HMB.out (fun h => h)).k2
                  go_simp
                  apply hK
                  · rfl
                  · conv => (lhs; whnf)
                  · exact hwi
                simp only [put_lit, put_none, List.set_cons_succ, List.set_cons_zero]
                apply Oblig.cons
                case h =>
                  intro S w1 hwi hSi hd hcl
                  apply StepOk.intro
                  intro K hK
                  obtain ⟨a1, a2, a3, hbz⟩ := HCL.out _ (HKJ.out.trans (hwi.mono (T := fun k => S0 k ∨ N ≤ k) (fun _ h => h.elim)) (fun _ _ h => h))
                  have qm := (hwi.blk HMB.out (fun h => h)).k2
                  go_simp
                  apply hK
                  · rfl
                  · conv => (lhs; whnf)
                  · exact hwi
                simp only [put_lit, put_none, List.set_cons_succ, List.set_cons_zero]
                apply Oblig.cons
                case h =>
                  intro S w1 hwi hSi hd hcl
                  apply StepOk.intro
                  intro K hK
                  obtain ⟨a1, a2, a3, hbz⟩ := HCL.out _ (HKJ.out.trans (hwi.mono (T := fun k => S0 k ∨ N ≤ k) (fun _ h => h.elim)) (fun _ _ h => h))
                  have qm := (hwi.blk HMB.out (fun h => h)).k2
                  go_simp
                  apply hK
                  · rfl
                  · conv => (lhs; whnf)
                  · exact hwi
                simp only [put_lit, put_none, List.set_cons_succ, List.set_cons_zero]
                apply Oblig.cons
                case h =>
                  intro S w1 hwi hSi hd hcl
                  apply StepOk.intro
                  intro K hK
                  obtain ⟨a1, a2, a3, hbz⟩ := HCL.out _ (HKJ.out.trans (hwi.mono (T := fun k => S0 k ∨ N ≤ k) (fun _ h => h.elim)) (fun _ _ h => h))
                  have qm := (hwi.blk HMB.out (fun h => h)).k2
                  go_simp
                  apply hK
                  · rfl
                  · conv => (lhs; whnf)
                  · exact hwi
                simp only [put_lit, put_none, List.set_cons_succ, List.set_cons_zero]
                apply Oblig.cons
                case h =>
                  intro S w1 hwi hSi hd hcl
                  apply StepOk.intro
                  intro K hK
                  obtain ⟨a1, a2, a3, hbz⟩ := HCL.out _ (HKJ.out.trans (hwi.mono (T := fun k => S0 k ∨ N ≤ k) (fun _ h => h.elim)) (fun _ _ h => h))
                  have qm := (hwi.blk HMB.out (fun h => h)).k2
                  go_simp
                  apply hK
                  · rfl
                  · conv => (lhs; whnf)
                  · exact hwi
                simp only [put_lit, put_none, List.set_cons_succ, List.set_cons_zero]
                apply Oblig.cons
                case h =>
                  intro S w1 hwi hSi hd hcl
                  apply StepOk.intro
                  intro K hK
                  obtain ⟨a1, a2, a3, hbz⟩ := HCL.out _ (HKJ.out.trans (hwi.mono (T := fun k => S0 k ∨ N ≤ k) (fun _ h => h.elim)) (fun _ _ h => h))
                  have qm := (hwi.blk HMB.out (fun h => h)).k2
                  go_simp
                  apply hK
                  · rfl
                  · conv => (lhs; whnf)
                  · exact hwi
                simp only [put_lit, put_none, List.set_cons_succ, List.set_cons_zero]
                apply Oblig.cons
                case h =>
                  intro S w1 hwi hSi hd hcl
                  apply StepOk.intro
                  intro K hK
                  obtain ⟨a1, a2, a3, hbz⟩ := HCL.out _ (HKJ.out.trans (hwi.mono (T := fun k => S0 k ∨ N ≤ k) (fun _ h => h.elim)) (fun _ _ h => h))
                  have qm := (hwi.blk HMB.out (fun h => h)).k2
                  go_simp
                  apply hK
                  · rfl
                  · conv => (lhs; whnf)
                  · exact hwi
                simp only [put_lit, put_none, List.set_cons_succ, List.set_cons_zero]
                exact Oblig.nil
              case h0 =>
                exact (Keep.refl _ _).drew
              case hend =>
                intro S wx hwi hall
                have HKX := hid (HKJ.out.trans (hwi.mono (T := fun k => S0 k ∨ N ≤ k) (fun _ h => h.elim)) (fun _ _ h => h))
                have HSX := hid (hkeep _ _ _ _ HSJ.out hwi)
                obtain ⟨wy, rfl⟩ : ∃ wy : World, wy = wx := ⟨_, rfl⟩
                clear hwi hall
                go_wp2_with fail
                go_roundw
                case rel => exact ⟨j + 1, by omega, by go_num, by rw [HN.out, if_neg HNN.out]; exact HSX.out, HKX.out⟩
                case measure => simp [intOf]; omega
          · have g1 : (pa == (n : Int)) = false := by simpa using hA
            have HNN := hid (fun h : pa = n ∧ 0 ≤ pw ∧ pw < (len : Int) => hA h.1)
            go_wp2_with fail
            apply wp_region_text (WI := fun S wx => Keep0 wr wx) (by kernel_rfl) (by kernel_rfl)
            case hob =>
              apply Oblig.cons
              case h =>
                intro S w1 hwi hSi hd hcl
                apply StepOk.intro
                intro K hK
                obtain ⟨a1, a2, a3, hbz⟩ := HCL.out _ (HKJ.out.trans (hwi.mono (T := fun k => S0 k ∨ N ≤ k) (fun _ h => h.elim)) (fun _ _ h => h))
                have qm := (hwi.blk HMB.out (fun h => h)).k2
                go_simp
                apply hK
                · rfl
                · conv => (lhs; whnf)
                · exact hwi
              simp only [put_lit, put_none, List.set_cons_succ, List.set_cons_zero]
              apply Oblig.cons
              case h =>
                intro S w1 hwi hSi hd hcl
                apply StepOk.intro
                intro K hK
                obtain ⟨a1, a2, a3, hbz⟩ := HCL.out _ (HKJ.out.trans (hwi.mono (T := fun k => S0 k ∨ N ≤ k) (fun _ h => h.elim)) (fun _ _ h => h))
                have qm := (hwi.blk HMB.out (fun h => h)).k2
                go_simp
                apply hK
                · rfl
                · conv => (lhs; whnf)
                · exact hwi
              simp only [put_lit, put_none, List.set_cons_succ, List.set_cons_zero]
              apply Oblig.cons
              case h =>
                intro S w1 hwi hSi hd hcl
                apply StepOk.intro
                intro K hK
                obtain ⟨a1, a2, a3, hbz⟩ := HCL.out _ (HKJ.out.trans (hwi.mono (T := fun k => S0 k ∨ N ≤ k) (fun _ h => h.elim)) (fun _ _ h => h))
                have qm := (hwi.blk HMB.out (fun h => h)).k2
                go_simp
                apply hK
                · rfl
                · conv => (lhs; whnf)
                · exact hwi
              simp only [put_lit, put_none, List.set_cons_succ, List.set_cons_zero]
              apply Oblig.cons
              case h =>
                intro S w1 hwi hSi hd hcl
                apply StepOk.intro
                intro K hK
                obtain ⟨a1, a2, a3, hbz⟩ := HCL.out _ (HKJ.out.trans (hwi.mono (T := fun k => S0 k ∨ N ≤ k) (fun _ h => h.elim)) (fun _ _ h => h))
                have qm := (hwi.blk HMB.out (fun h => h)).k2
                go_simp
                apply hK
                · rfl
                · conv => (lhs; whnf)
                · exact hwi
              simp only [put_lit, put_none, List.set_cons_succ, List.set_cons_zero]
              apply Oblig.cons
              case h =>
                intro S w1 hwi hSi hd hcl
                apply StepOk.intro
                intro K hK
                obtain ⟨a1, a2, a3, hbz⟩ := HCL.out _ (HKJ.out.trans (hwi.mono (T := fun k => S0 k ∨ N ≤ k) (fun _ h => h.elim)) (fun _ _ h => h))
                have qm := (hwi.blk HMB.out (fun h => h)).k2
                go_simp
                apply hK
                · rfl
                · conv => (lhs; whnf)
                · exact hwi
              simp only [put_lit, put_none, List.set_cons_succ, List.set_cons_zero]
              apply Oblig.cons
              case h =>
                intro S w1 hwi hSi hd hcl
                apply StepOk.intro
                intro K hK
                obtain ⟨a1, a2, a3, hbz⟩ := HCL.out _ (HKJ.out.trans (hwi.mono (T := fun k => S0 k ∨ N ≤ k) (fun _ h => h.elim)) (fun _ _ h => h))
                have qm := (hwi.blk HMB.out (fun h => h)).k2
                go_simp
                apply hK
                · rfl
                · conv => (lhs; whnf)
                · exact hwi
              simp only [put_lit, put_none, List.set_cons_succ, List.set_cons_zero]
              apply Oblig.cons
              case h =>
                intro S w1 hwi hSi hd hcl
                apply StepOk.intro
                intro K hK
                obtain ⟨a1, a2, a3, hbz⟩ := HCL.out _ (HKJ.out.trans (hwi.mono (T := fun k => S0 k ∨ N ≤ k) (fun _ h => h.elim)) (fun _ _ h => h))
                have qm := (hwi.blk HMB.out (fun h => h)).k2
                go_simp
                apply hK
                · rfl
                · conv => (lhs; whnf)
                · exact hwi
              simp only [put_lit, put_none, List.set_cons_succ, List.set_cons_zero]
              apply Oblig.cons
              case h =>
                intro S w1 hwi hSi hd hcl
                apply StepOk.intro
                intro K hK
                obtain ⟨a1, a2, a3, hbz⟩ := HCL.out _ (HKJ.out.trans (hwi.mono (T := fun k => S0 k ∨ N ≤ k) (fun _ h => h.elim)) (fun _ _ h => h))
                have qm := (hwi.blk HMB.out (fun h => h)).k2
                go_simp
                apply hK
                · rfl
                · conv => (lhs; whnf)
                · exact hwi
              simp only [put_lit, put_none, List.set_cons_succ, List.set_cons_zero]
              apply Oblig.cons
              case h =>
                intro S w1 hwi hSi hd hcl
                apply StepOk.intro
                intro K hK
                obtain ⟨a1, a2, a3, hbz⟩ := HCL.out _ (HKJ.out.trans (hwi.mono (T := fun k => S0 k ∨ N ≤ k) (fun _ h => h.elim)) (fun _ _ h => h))
                have qm := (hwi.blk HMB.out (fun h => h)).k2
                go_simp
                apply hK
                · rfl
                · conv => (lhs; whnf)
                · exact hwi
              simp only [put_lit, put_none, List.set_cons_succ, List.set_cons_zero]
              apply Oblig.cons
              case h =>
                intro S w1 hwi hSi hd hcl
                apply StepOk.intro
                intro K hK
                obtain ⟨a1, a2, a3, hbz⟩ := HCL.out _ (HKJ.out.trans (hwi.mono (T := fun k => S0 k ∨ N ≤ k) (fun _ h => h.elim)) (fun _ _ h => h))
                have qm := (hwi.blk HMB.out (fun h => h)).k2
                go_simp
                apply hK
                · rfl
                · conv => (lhs; whnf)
                · exact hwi
              simp only [put_lit, put_none, List.set_cons_succ, List.set_cons_zero]
              apply Oblig.cons
              case h =>
                intro S w1 hwi hSi hd hcl
                apply StepOk.intro
                intro K hK
                obtain ⟨a1, a2, a3, hbz⟩ := HCL.out _ (HKJ.out.trans (hwi.mono (T := fun k => S0 k ∨ N ≤ k) (fun _ h => h.elim)) (fun _ _ h => h))
                have qm := (hwi.blk HMB.out (fun h => h)).k2
                go_simp
                apply hK
                · rfl
                · conv => (lhs; whnf)
                · exact hwi
              simp only [put_lit, put_none, List.set_cons_succ, List.set_cons_zero]
              apply Oblig.cons
              case h =>
                intro S w1 hwi hSi hd hcl
                apply StepOk.intro
                intro K hK
                obtain ⟨a1, a2, a3, hbz⟩ := HCL.out _ (HKJ.out.trans (hwi.mono (T := fun k => S0 k ∨ N ≤ k) (fun _ h => h.elim)) (fun _ _ h => h))
                have qm := (hwi.blk HMB.out (fun h => h)).k2
                go_simp
                apply hK
                · rfl
                · conv => (lhs; whnf)
                · exact hwi
              simp only [put_lit, put_none, List.set_cons_succ, List.set_cons_zero]
              apply Oblig.cons
              case h =>
                intro S w1 hwi hSi hd hcl
                apply StepOk.intro
                intro K hK
                obtain ⟨a1, a2, a3, hbz⟩ := HCL.out _ (HKJ.out.trans (hwi.mono (T := fun k => S0 k ∨ N ≤ k) (fun _ h => h.elim)) (fun _ _ h => h))
                have qm := (hwi.blk HMB.out (fun h => h)).k2
                go_simp
                apply hK
                · rfl
                · conv => (lhs; whnf)
                · exact hwi
              simp only [put_lit, put_none, List.set_cons_succ, List.set_cons_zero]
              apply Oblig.cons
              case h =>
                intro S w1 hwi hSi hd hcl
                apply StepOk.intro
                intro K hK
                obtain ⟨a1, a2, a3, hbz⟩ := HCL.out _ (HKJ.out.trans (hwi.mono (T := fun k => S0 k ∨ N ≤ k) (fun _ h => h.elim)) (fun _ _ h => h))
                have qm := (hwi.blk HMB.out (fun h => h)).k2
                go_simp
                apply hK
                · rfl
                · conv => (lhs; whnf)
                · exact hwi
              simp only [put_lit, put_none, List.set_cons_succ, List.set_cons_zero]
              apply Oblig.cons
              case h =>
                intro S w1 hwi hSi hd hcl
                apply StepOk.intro
                intro K hK
                obtain ⟨a1, a2, a3, hbz⟩ := HCL.out _ (HKJ.out.trans (hwi.mono (T := fun k => S0 k ∨ N ≤ k) (fun _ h => h.elim)) (fun _ _ h => h))
                have qm := (hwi.blk HMB.out (fun h => h)).k2
                go_simp
                apply hK
                · rfl
                · conv => (lhs; whnf)
                · exact hwi
              simp only [put_lit, put_none, List.set_cons_succ, List.set_cons_zero]
              apply Oblig.cons
              case h =>
                intro S w1 hwi hSi hd hcl
                apply StepOk.intro
                intro K hK
                obtain ⟨a1, a2, a3, hbz⟩ := HCL.out _ (HKJ.out.trans (hwi.mono (T := fun k => S0 k ∨ N ≤ k) (fun _ h => h.elim)) (fun _ _ h => h))
                have qm := (hwi.blk HMB.out (fun h => h)).k2
                go_simp
                apply hK
                · rfl
                · conv => (lhs; whnf)
                · exact hwi
              simp only [put_lit, put_none, List.set_cons_succ, List.set_cons_zero]
              apply Oblig.cons
              case h =>
                intro S w1 hwi hSi hd hcl
                apply StepOk.intro
                intro K hK
                obtain ⟨a1, a2, a3, hbz⟩ := HCL.out _ (HKJ.out.trans (hwi.mono (T := fun k => S0 k ∨ N ≤ k) (fun _ h => h.elim)) (fun _ _ h => h))
                have qm := (hwi.blk HMB.out (fun h => h)).k2
                go_simp
                apply hK
                · rfl
                · conv => (lhs; whnf)
                · exact hwi
              simp only [put_lit, put_none, List.set_cons_succ, List.set_cons_zero]
              apply Oblig.cons
              case h =>
                intro S w1 hwi hSi hd hcl
                apply StepOk.intro
                intro K hK
                obtain ⟨a1, a2, a3, hbz⟩ := HCL.out _ (HKJ.out.trans (hwi.mono (T := fun k => S0 k ∨ N ≤ k) (fun _ h => h.elim)) (fun _ _ h => h))
                have qm := (hwi.blk HMB.out (fun h => h)).k2
                go_simp
                apply hK
                · rfl
                · conv => (lhs; whnf)
                · exact hwi
              simp only [put_lit, put_none, List.set_cons_succ, List.set_cons_zero]
              apply Oblig.cons
              case h =>
                intro S w1 hwi hSi hd hcl
                apply StepOk.intro
                intro K hK
                obtain ⟨a1, a2, a3, hbz⟩ := HCL.out _ (HKJ.out.trans (hwi.mono (T := fun k => S0 k ∨ N ≤ k) (fun _ h => h.elim)) (fun _ _ h => h))
                have qm := (hwi.blk HMB.out (fun h => h)).k2
                go_simp
                apply hK
                · rfl
                · conv => (lhs; whnf)
                · exact hwi
              simp only [put_lit, put_none, List.set_cons_succ, List.set_cons_zero]
              apply Oblig.cons
              case h =>
                intro S w1 hwi hSi hd hcl
                apply StepOk.intro
                intro K hK
                obtain ⟨a1, a2, a3, hbz⟩ := HCL.out _ (HKJ.out.trans (hwi.mono (T := fun k => S0 k ∨ N ≤ k) (fun _ h => h.elim)) (fun _ _ h => h))
                have qm := (hwi.blk HMB.out (fun h => h)).k2
                go_simp
                apply hK
                · rfl
                · conv => (lhs; whnf)
                · exact hwi
              simp only [put_lit, put_none, List.set_cons_succ, List.set_cons_zero]
              apply Oblig.cons
              case h =>
                intro S w1 hwi hSi hd hcl
                apply StepOk.intro
                intro K hK
                obtain ⟨a1, a2, a3, hbz⟩ := HCL.out _ (HKJ.out.trans (hwi.mono (T := fun k => S0 k ∨ N ≤ k) (fun _ h => h.elim)) (fun _ _ h => h))
                have qm := (hwi.blk HMB.out (fun h => h)).k2
                go_simp
                apply hK
                · rfl
                · conv => (lhs; whnf)
                · exact hwi
              simp only [put_lit, put_none, List.set_cons_succ, List.set_cons_zero]
              apply Oblig.cons
              case h =>
                intro S w1 hwi hSi hd hcl
                apply StepOk.intro
                intro K hK
                obtain ⟨a1, a2, a3, hbz⟩ := HCL.out _ (HKJ.out.trans (hwi.mono (T := fun k => S0 k ∨ N ≤ k) (fun _ h => h.elim)) (fun _ _ h => h))
                have qm := (hwi.blk HMB.out (fun h => h)).k2
                go_simp
                apply hK
                · rfl
                · conv => (lhs; whnf)
                · exact hwi
              simp only [put_lit, put_none, List.set_cons_succ, List.set_cons_zero]
              apply Oblig.cons
              case h =>
                intro S w1 hwi hSi hd hcl
                apply StepOk.intro
                intro K hK
                obtain ⟨a1, a2, a3, hbz⟩ := HCL.out _ (HKJ.out.trans (hwi.mono (T := fun k => S0 k ∨ N ≤ k) (fun _ h => h.elim)) (fun _ _ h => h))
                have qm := (hwi.blk HMB.out (fun h => h)).k2
                go_simp
                apply hK
                · rfl
                · conv => (lhs; whnf)
                · exact hwi
              simp only [put_lit, put_none, List.set_cons_succ, List.set_cons_zero]
              apply Oblig.cons
              case h =>
                intro S w1 hwi hSi hd hcl
                apply StepOk.intro
                intro K hK
                obtain ⟨a1, a2, a3, hbz⟩ := HCL.out _ (HKJ.out.trans (hwi.mono (T := fun k => S0 k ∨ N ≤ k) (fun _ h => h.elim)) (fun _ _ h => h))
                have qm := (hwi.blk HMB.out (fun h => h)).k2
                go_simp
                apply hK
                · rfl
                · conv => (lhs; whnf)
                · exact hwi
              simp only [put_lit, put_none, List.set_cons_succ, List.set_cons_zero]
              apply Oblig.cons
              case h =>
                intro S w1 hwi hSi hd hcl
                apply StepOk.intro
                intro K hK
                obtain ⟨a1, a2, a3, hbz⟩ := HCL.out _ (HKJ.out.trans (hwi.mono (T := fun k => S0 k ∨ N ≤ k) (fun _ h => h.elim)) (fun _ _ h => h))
                have qm := (hwi.blk HMB.out (fun h => h)).k2
                go_simp
                apply hK
                · rfl
                · conv => (lhs; whnf)
                · exact hwi
              simp only [put_lit, put_none, List.set_cons_succ, List.set_cons_zero]
              apply Oblig.cons
              case h =>
                intro S w1 hwi hSi hd hcl
                apply StepOk.intro
                intro K hK
                obtain ⟨a1, a2, a3, hbz⟩ := HCL.out _ (HKJ.out.trans (hwi.mono (T := fun k => S0 k ∨ N ≤ k) (fun _ h => h.elim)) (fun _ _ h => h))
                have qm := (hwi.blk HMB.out (fun h => h)).k2
                go_simp
                apply hK
                · rfl
                · conv => (lhs; whnf)
                · exact hwi
              simp only [put_lit, put_none, List.set_cons_succ, List.set_cons_zero]
              apply Oblig.cons
              case h =>
                intro S w1 hwi hSi hd hcl
                apply StepOk.intro
                intro K hK
                obtain ⟨a1, a2, a3, hbz⟩ := HCL.out _ (HKJ.out.trans (hwi.mono (T := fun k => S0 k ∨ N ≤ k) (fun _ h => h.elim)) (fun _ _ h => h))
                have qm := (hwi.blk HMB.out (fun h => h)).k2
                go_simp
                apply hK
                · rfl
                · conv => (lhs; whnf)
                · exact hwi
              simp only [put_lit, put_none, List.set_cons_succ, List.set_cons_zero]
              apply Oblig.cons
              case h =>
                intro S w1 hwi hSi hd hcl
                apply StepOk.intro
                intro K hK
                obtain ⟨a1, a2, a3, hbz⟩ := HCL.out _ (HKJ.out.trans (hwi.mono (T := fun k => S0 k ∨ N ≤ k) (fun _ h => h.elim)) (fun _ _ h => h))
                have qm := (hwi.blk HMB.out (fun h => h)).k2
                go_simp
                apply hK
                · rfl
                · conv => (lhs; whnf)
                · exact hwi
              simp only [put_lit, put_none, List.set_cons_succ, List.set_cons_zero]
              exact Oblig.nil
            case h0 =>
              exact (Keep.refl _ _).drew
            case hend =>
              intro S wx hwi hall
              have HKX := hid (HKJ.out.trans (hwi.mono (T := fun k => S0 k ∨ N ≤ k) (fun _ h => h.elim)) (fun _ _ h => h))
              have HSX := hid (hkeep _ _ _ _ HSJ.out hwi)
              obtain ⟨wy, rfl⟩ : ∃ wy : World, wy = wx := ⟨_, rfl⟩
              clear hwi hall
              go_wp2_with fail
              go_roundw
              case rel => exact ⟨j + 1, by omega, by go_num, by rw [HN.out, if_neg HNN.out]; exact HSX.out, HKX.out⟩
              case measure => simp [intOf]; omega
        · have hst := HSJ.out
          rw [List.take_of_length_le (by omega)] at hst
          have hpl : playF stp pk len l (most - n) n t' = (if (stp (pokeAll pk len n l t')).2 then ((stp (pokeAll pk len n l t')).1, n + 1, true) else playF stp pk len l (most - (n + 1)) (n + 1) (stp (pokeAll pk len n l t')).1) := by
            rw [show most - n = (most - (n + 1)) + 1 from by omega]; rfl
          have HP2 := hid hpl
          have HST := hid hst
          clear hpl hst
          cases hb2 : (stp (pokeAll pk len n l t')).2
          all_goals
            have HB2 := hid hb2
            clear hb2
            go_wp2_with fail
            refine (hstep n _ _ hlt HST.out).mono ?_
            rintro e w1 ⟨rfl, hs1, hk2⟩
            rw [HB2.out]
            have HS1 := hid hs1
            have HK1 := hid hk2
            clear hs1 hk2
            go_wp2_with fail
          · go_roundw
            case rel => exact ⟨n + 1, by omega, by go_num, _, HS1.out, by rw [← HPL.out, HP2.out, HB2.out]; rfl, (HK.out.trans HKJ.out (fun _ _ h => h)).trans HK1.out (fun _ _ h => h)⟩
            case measure => simp [intOf]; omega
          · have hfin : playF stp pk len l most 0 t = ((stp (pokeAll pk len n l t')).1, n + 1, true) := by rw [← HPL.out, HP2.out, HB2.out]; rfl
            have HF := hid hfin
            clear hfin
            go_ret2
            rw [HF.out]
            exact ⟨by go_num, ⟨_, HS1.out⟩, (HK.out.trans HKJ.out (fun _ _ h => h)).trans HK1.out (fun _ _ h => h)⟩
    · have hnm : n = most := by omega
      have hfin : playF stp pk len l most 0 t = (t', most, false) := by rw [← HPL.out, hnm, Nat.sub_self]; rfl
      have HF := hid hfin
      clear hfin hnm
      go_wp2_with fail
      go_ret2
      rw [HF.out]
      exact ⟨rfl, ⟨_, HS'.out⟩, HK.out⟩
end
end Go.Proofs.Ytonekdolmbdniaa


namespace Go.Proofs.Ytonekdolmbdniaa
open Go.RowKit
set_option linter.unusedVariables false
set_option linter.unusedSimpArgs false
set_option maxRecDepth 100000

set_option maxHeartbeats 2000000 in
theorem ref_Own (t s g l r k : Int) (P L : List Int) (pb po lb lo pc lc : Nat) (w : World) (hp : P.length ≤ 1000) (hl : L.length ≤ 1000)
    (hP : ∀ i, i < P.length → w.cell? ⟨pb, po + i, none⟩ = some (i64 (rd P i))) (hL : ∀ i, i < L.length → w.cell? ⟨lb, lo + i, none⟩ = some (i64 (rd L i))) :
    Calls Try.prog 66 #[.agg #[i64 t, i64 s, i64 g, i64 l, i64 r, i64 k, .slice (some ⟨pb, po, none⟩) P.length pc, .slice (some ⟨lb, lo, none⟩) L.length lc]] w fun e w' => ∃ PA pc' LA lc', e = .returned (.agg #[i64 t, i64 s, i64 g, i64 l, i64 r, i64 k, .slice PA P.length pc', .slice LA L.length lc']) ∧ Keep0 w w' := by
  obtain ⟨i0, hti, hz0, hz1, hz2⟩ := info_parts info_int
  have HI := hid hti
  clear hti
  have HP := hid hP
  have HL := hid hL
  clear hP hL
  go_enter Try.func66, Try.ntmps66
  go_upto_region 2 with fail
  have HT1 : Hid (Blk (((w.alloc (.cells #[i64 t, i64 s, i64 g, i64 l, i64 r, i64 k, .slice (some ⟨pb, po, none⟩) P.length pc, .slice (some ⟨lb, lo, none⟩) L.length lc] 24)).alloc (.cells #[i64 0, i64 0, i64 0, i64 0, i64 0, i64 0, .slice none 0 0, .slice none 0 0] 24)).alloc (.cells #[i64 t, i64 s, i64 g, i64 l, i64 r, i64 k, .slice (some ⟨pb, po, none⟩) P.length pc, .slice (some ⟨lb, lo, none⟩) L.length lc] 24)) w.heap.size 24 [i64 t, i64 s, i64 g, i64 l, i64 r, i64 k, .slice (some ⟨pb, po, none⟩) P.length pc, .slice (some ⟨lb, lo, none⟩) L.length lc]) := hid (((Blk.made rfl rfl).alloc _).alloc _)
  have HT2 : Hid (Blk (((w.alloc (.cells #[i64 t, i64 s, i64 g, i64 l, i64 r, i64 k, .slice (some ⟨pb, po, none⟩) P.length pc, .slice (some ⟨lb, lo, none⟩) L.length lc] 24)).alloc (.cells #[i64 0, i64 0, i64 0, i64 0, i64 0, i64 0, .slice none 0 0, .slice none 0 0] 24)).alloc (.cells #[i64 t, i64 s, i64 g, i64 l, i64 r, i64 k, .slice (some ⟨pb, po, none⟩) P.length pc, .slice (some ⟨lb, lo, none⟩) L.length lc] 24)) (w.heap.size + 1) 24 [i64 0, i64 0, i64 0, i64 0, i64 0, i64 0, .slice none 0 0, .slice none 0 0]) := hid ((Blk.made (by simp) rfl).alloc _)
  have HT3 : Hid (Blk (((w.alloc (.cells #[i64 t, i64 s, i64 g, i64 l, i64 r, i64 k, .slice (some ⟨pb, po, none⟩) P.length pc, .slice (some ⟨lb, lo, none⟩) L.length lc] 24)).alloc (.cells #[i64 0, i64 0, i64 0, i64 0, i64 0, i64 0, .slice none 0 0, .slice none 0 0] 24)).alloc (.cells #[i64 t, i64 s, i64 g, i64 l, i64 r, i64 k, .slice (some ⟨pb, po, none⟩) P.length pc, .slice (some ⟨lb, lo, none⟩) L.length lc] 24)) (w.heap.size + 1 + 1) 24 [i64 t, i64 s, i64 g, i64 l, i64 r, i64 k, .slice (some ⟨pb, po, none⟩) P.length pc, .slice (some ⟨lb, lo, none⟩) L.length lc]) := hid (Blk.made (by simp) rfl)
  have HK1 : Hid (Keep0 w (((w.alloc (.cells #[i64 t, i64 s, i64 g, i64 l, i64 r, i64 k, .slice (some ⟨pb, po, none⟩) P.length pc, .slice (some ⟨lb, lo, none⟩) L.length lc] 24)).alloc (.cells #[i64 0, i64 0, i64 0, i64 0, i64 0, i64 0, .slice none 0 0, .slice none 0 0] 24)).alloc (.cells #[i64 t, i64 s, i64 g, i64 l, i64 r, i64 k, .slice (some ⟨pb, po, none⟩) P.length pc, .slice (some ⟨lb, lo, none⟩) L.length lc] 24))) := hid ((((Keep.refl _ _).alloc _).alloc _).alloc _)
  generalize ((w.alloc (.cells #[i64 t, i64 s, i64 g, i64 l, i64 r, i64 k, .slice (some ⟨pb, po, none⟩) P.length pc, .slice (some ⟨lb, lo, none⟩) L.length lc] 24)).alloc (.cells #[i64 0, i64 0, i64 0, i64 0, i64 0, i64 0, .slice none 0 0, .slice none 0 0] 24)).alloc (.cells #[i64 t, i64 s, i64 g, i64 l, i64 r, i64 k, .slice (some ⟨pb, po, none⟩) P.length pc, .slice (some ⟨lb, lo, none⟩) L.length lc] 24) = w1 at *
  have q1 := HT1.out.k8
  have q3 := HT3.out.k8
  go_upto_region 3 with (at_builtin; refine wpl_append_own ?a1 (.tmp 5) (.tmp 7) 22 ?a2 (w1.heap.size) 3 i0 ?z 1 8 ?a3 ?a4 ?a5 ?a6 ?a7 ?a8 ?a9 (.slice (some ⟨w1.heap.size, 0, none⟩) 0 0) (0) ([]) ?a10 ?hown (⟨pb, po, none⟩) (P.length) (pc) (ints P) ?a11 ?a12 ?hnews ?hone ?h63 ?hby ?hbase ?_; (case a1 => rfl); (case a2 => rfl); (case a3 => exact Try.underlying22); (case a4 => exact HI.out); (case a5 => exact hz0); (case a6 => exact hz1); (case a7 => exact hz2); (case a8 => rfl); (case a9 => decide); (case a10 => rfl); (case a11 => rfl); (case a12 => simp [ints]); (case hown => exact own_empty (Blk.made rfl rfl) (Nat.le_refl _)); (case h63 => unfold maxLen; omega); (case hby => omega); (case hnews => intro j u hj; have hjl : j < P.length := (by have := (List.getElem?_eq_some_iff.1 hj).1; simpa [ints] using this); have e1 : (⟨pb, po, none⟩ : Addr).add j = ⟨pb, po + j, none⟩ := addr_addo _ _ _; have h0 := HP.out j hjl; have hz := World.block_lt_of_cell? _ _ h0; rw [e1]; refine (cell_old (S := fun _ => False) (w := w) (HK1.out.alloc _) hz (fun h => h) _).trans ?_; rw [h0, ← hj, ints_get P j hjl]); (case hone => exact ints_one P); (case hbase => simp); intro A2 c2 w2 hown hg hsl; have HO := own_empty (w := w1.alloc (.cells #[] 3)) (B := w1.heap.size) (size := 1) (Blk.made (w := w1) (t := 3) (c := #[]) rfl rfl) (Nat.le_refl _); have T1 := grown_blk hg (HT1.out.alloc (.cells #[] 3)) (ownBlock_ne HO (HT1.out.alloc (.cells #[] 3)) (by decide)); have T2 := grown_blk hg (HT2.out.alloc (.cells #[] 3)) (ownBlock_ne HO (HT2.out.alloc (.cells #[] 3)) (by decide)); have T3 := grown_blk hg (HT3.out.alloc (.cells #[] 3)) (ownBlock_ne HO (HT3.out.alloc (.cells #[] 3)) (by decide)); have HKN := hid (Keep.grown (HK1.out.alloc (.cells #[] 3)) hg (fun k hk e => by have := HK1.out.size; simp [Value.ownBlock] at e; omega)); have hz3 := T3.k8; clear HO hown hg hsl HT1 HT2 HT3 HK1)
  have HT1 := hid (T1.other (a := ⟨w.heap.size + 1 + 1, 6, none⟩) (.slice A2 P.length c2) (by show w.heap.size + 1 + 1 ≠ w.heap.size; omega))
  have HT2 := hid (T2.other (a := ⟨w.heap.size + 1 + 1, 6, none⟩) (.slice A2 P.length c2) (by show w.heap.size + 1 + 1 ≠ w.heap.size + 1; omega))
  have HT3 := hid (T3.set 6 (.slice A2 P.length c2))
  have HK3 := hid (HKN.out.set ⟨w.heap.size + 1 + 1, 6, none⟩ (.slice A2 P.length c2) (fun h => absurd (show w.heap.size + 1 + 1 < w.heap.size from h) (by omega)))
  clear T1 T2 T3 HKN hz3 q1 q3
  generalize w2.setCell ⟨w.heap.size + 1 + 1, 6, none⟩ (.slice A2 P.length c2) = w4 at *
  have HT3 := hid (show Blk w4 (w.heap.size + 1 + 1) 24 [i64 t, i64 s, i64 g, i64 l, i64 r, i64 k, .slice A2 P.length c2, .slice (some ⟨lb, lo, none⟩) L.length lc] from HT3.out)
  have q1 := HT1.out.k8
  go_upto_region 4 with (at_builtin; refine wpl_append_own ?a1 (.tmp 10) (.tmp 12) 22 ?a2 (w4.heap.size) 3 i0 ?z 1 8 ?a3 ?a4 ?a5 ?a6 ?a7 ?a8 ?a9 (.slice (some ⟨w4.heap.size, 0, none⟩) 0 0) (0) ([]) ?a10 ?hown (⟨lb, lo, none⟩) (L.length) (lc) (ints L) ?a11 ?a12 ?hnews ?hone ?h63 ?hby ?hbase ?_; (case a1 => rfl); (case a2 => rfl); (case a3 => exact Try.underlying22); (case a4 => exact HI.out); (case a5 => exact hz0); (case a6 => exact hz1); (case a7 => exact hz2); (case a8 => rfl); (case a9 => decide); (case a10 => rfl); (case a11 => rfl); (case a12 => simp [ints]); (case hown => exact own_empty (Blk.made rfl rfl) (Nat.le_refl _)); (case h63 => unfold maxLen; omega); (case hby => omega); (case hnews => intro j u hj; have hjl : j < L.length := (by have := (List.getElem?_eq_some_iff.1 hj).1; simpa [ints] using this); have e1 : (⟨lb, lo, none⟩ : Addr).add j = ⟨lb, lo + j, none⟩ := addr_addo _ _ _; have h0 := HL.out j hjl; have hz := World.block_lt_of_cell? _ _ h0; rw [e1]; refine (cell_old (S := fun _ => False) (w := w) (HK3.out.alloc _) hz (fun h => h) _).trans ?_; rw [h0, ← hj, ints_get L j hjl]); (case hone => exact ints_one L); (case hbase => simp); intro A5 c5 w5 hown hg hsl; have HO := own_empty (w := w4.alloc (.cells #[] 3)) (B := w4.heap.size) (size := 1) (Blk.made (w := w4) (t := 3) (c := #[]) rfl rfl) (Nat.le_refl _); have T1 := grown_blk hg (HT1.out.alloc (.cells #[] 3)) (ownBlock_ne HO (HT1.out.alloc (.cells #[] 3)) (by decide)); have T2 := grown_blk hg (HT2.out.alloc (.cells #[] 3)) (ownBlock_ne HO (HT2.out.alloc (.cells #[] 3)) (by decide)); have T3 := grown_blk hg (HT3.out.alloc (.cells #[] 3)) (ownBlock_ne HO (HT3.out.alloc (.cells #[] 3)) (by decide)); have HKN := hid (Keep.grown (HK3.out.alloc (.cells #[] 3)) hg (fun k hk e => by have := HK3.out.size; simp [Value.ownBlock] at e; omega)); have hz3 := T3.k8; clear HO hown hg hsl HT1 HT2 HT3 HK3)
  have HT2 := hid (T2.other (a := ⟨w.heap.size + 1 + 1, 7, none⟩) (.slice A5 L.length c5) (by show w.heap.size + 1 + 1 ≠ w.heap.size + 1; omega))
  have HT3 := hid (T3.set 7 (.slice A5 L.length c5))
  have HK5 := hid (HKN.out.set ⟨w.heap.size + 1 + 1, 7, none⟩ (.slice A5 L.length c5) (fun h => absurd (show w.heap.size + 1 + 1 < w.heap.size from h) (by omega)))
  clear T1 T2 T3 HKN hz3 q1
  generalize w5.setCell ⟨w.heap.size + 1 + 1, 7, none⟩ (.slice A5 L.length c5) = w6 at *
  have q3 := (show Blk w6 (w.heap.size + 1 + 1) 24 [i64 t, i64 s, i64 g, i64 l, i64 r, i64 k, .slice A2 P.length c2, .slice A5 L.length c5] from HT3.out).k8
  have q2 := HT2.out.k8
  go_wp2_with fail
  have HF := hid (show Blk (((((((((w6).setCell ⟨w.heap.size + 1, 0, none⟩ (i64 t)).setCell ⟨w.heap.size + 1, 1, none⟩ (i64 s)).setCell ⟨w.heap.size + 1, 2, none⟩ (i64 g)).setCell ⟨w.heap.size + 1, 3, none⟩ (i64 l)).setCell ⟨w.heap.size + 1, 4, none⟩ (i64 r)).setCell ⟨w.heap.size + 1, 5, none⟩ (i64 k)).setCell ⟨w.heap.size + 1, 6, none⟩ (.slice A2 P.length c2)).setCell ⟨w.heap.size + 1, 7, none⟩ (.slice A5 L.length c5)) (w.heap.size + 1) 24 [i64 t, i64 s, i64 g, i64 l, i64 r, i64 k, .slice A2 P.length c2, .slice A5 L.length c5] from (((((((HT2.out.set 0 (i64 t)).set 1 (i64 s)).set 2 (i64 g)).set 3 (i64 l)).set 4 (i64 r)).set 5 (i64 k)).set 6 (.slice A2 P.length c2)).set 7 (.slice A5 L.length c5))
  have hn : ¬ (w.heap.size + 1 < w.heap.size) := by omega
  have HKF : Hid (Keep0 w (((((((((w6).setCell ⟨w.heap.size + 1, 0, none⟩ (i64 t)).setCell ⟨w.heap.size + 1, 1, none⟩ (i64 s)).setCell ⟨w.heap.size + 1, 2, none⟩ (i64 g)).setCell ⟨w.heap.size + 1, 3, none⟩ (i64 l)).setCell ⟨w.heap.size + 1, 4, none⟩ (i64 r)).setCell ⟨w.heap.size + 1, 5, none⟩ (i64 k)).setCell ⟨w.heap.size + 1, 6, none⟩ (.slice A2 P.length c2)).setCell ⟨w.heap.size + 1, 7, none⟩ (.slice A5 L.length c5))) := hid (((((((((HK5.out).set ⟨w.heap.size + 1, 0, none⟩ (i64 t) (fun h => hn h)).set ⟨w.heap.size + 1, 1, none⟩ (i64 s) (fun h => hn h)).set ⟨w.heap.size + 1, 2, none⟩ (i64 g) (fun h => hn h)).set ⟨w.heap.size + 1, 3, none⟩ (i64 l) (fun h => hn h)).set ⟨w.heap.size + 1, 4, none⟩ (i64 r) (fun h => hn h)).set ⟨w.heap.size + 1, 5, none⟩ (i64 k) (fun h => hn h)).set ⟨w.heap.size + 1, 6, none⟩ (.slice A2 P.length c2) (fun h => hn h)).set ⟨w.heap.size + 1, 7, none⟩ (.slice A5 L.length c5) (fun h => hn h))
  clear q2 q3
  generalize ((((((((w6).setCell ⟨w.heap.size + 1, 0, none⟩ (i64 t)).setCell ⟨w.heap.size + 1, 1, none⟩ (i64 s)).setCell ⟨w.heap.size + 1, 2, none⟩ (i64 g)).setCell ⟨w.heap.size + 1, 3, none⟩ (i64 l)).setCell ⟨w.heap.size + 1, 4, none⟩ (i64 r)).setCell ⟨w.heap.size + 1, 5, none⟩ (i64 k)).setCell ⟨w.heap.size + 1, 6, none⟩ (.slice A2 P.length c2)).setCell ⟨w.heap.size + 1, 7, none⟩ (.slice A5 L.length c5) = w7 at *
  have qF := HF.out.k8
  exact bodyPost_ret (v := .agg #[i64 t, i64 s, i64 g, i64 l, i64 r, i64 k, .slice A2 P.length c2, .slice A5 L.length c5]) (by simp [results, Try.results66, go_sem, qF]) rfl ⟨A2, c2, A5, c5, rfl, HKF.out⟩

end Go.Proofs.Ytonekdolmbdniaa


namespace Go.Proofs.Ytonekdolmbdniaa
open Go.RowKit
set_option linter.unusedVariables false
set_option linter.unusedSimpArgs false
set_option maxRecDepth 100000
section
variable {B : Nat} {w : World} {m y : Nat} {A : Option Addr} {ca : Nat} {lv : Value} {kd li av : Nat} {t s g l r k nd n X : Int} {PA : Option Addr} {pn pc : Nat} {LA : Option Addr} {ln lc : Nat}
set_option maxHeartbeats 4000000 in
theorem rsh_over0 {W : List Int} {L : List Acc} {c12 c13 c14 c15 c16 : Value} (hm : RefAt B w m A ca lv W L) (hy : Blk w y 94 [i64 1, i64 t, i64 s, i64 g, i64 l, i64 r, i64 k, .slice PA pn pc, .slice LA ln lc, i64 nd, i64 n, i64 9, c12, c13, c14, c15, c16]) (hn : 1 ≤ n ∧ n ≤ 1048576) (hs0 : 1 ≤ s) (hs1 : s ≤ 8) (hv0 : 0 ≤ nd) (hv1 : nd ≤ 1000) (hli : (li : Int) = nd * (6 + 2 * s)) (hav : (av : Int) = nd * (6 + 2 * s) + 1) :
    Calls Try.prog 53 #[ptr y, ptr m] w fun e w' => e = .returned (.bool true) ∧ Keep0 w w' := by
  have HY0 := hid hy
  have qy0 := HY0.out.k17
  have HM0 := hid hm
  have HLI := hid hli
  have HAV := hid hav
  have HK0 : Hid (Keep0 w w) := hid (Keep.refl _ _)
  have ym : IntKind.i64.wrap (-n) = -n := IntWalk.i64_in _ (by omega)
  clear hy hm hli hav
  go_enter Try.func53, Try.ntmps53
  go_wp2_with fail
  apply wp_region_text (WI := fun S wx => Keep0 w wx) (by kernel_rfl) (by kernel_rfl)
  case hob =>
    apply Oblig.cons
    case h =>
      intro S w1 hwi hSi hd hcl
      apply StepOk.intro
      intro K hK
      have qy3 := (hwi.blk HY0.out (fun h => h)).k17
      go_simp
      apply hK
      · rfl
      · conv => (lhs; whnf)
      · exact hwi
    simp only [put_lit, put_none, List.set_cons_succ, List.set_cons_zero]
    apply Oblig.cons
    case h =>
      intro S w1 hwi hSi hd hcl
      apply StepOk.intro
      intro K hK
      have qy3 := (hwi.blk HY0.out (fun h => h)).k17
      go_simp
      apply hK
      · rfl
      · conv => (lhs; whnf)
      · exact hwi
    simp only [put_lit, put_none, List.set_cons_succ, List.set_cons_zero]
    apply Oblig.cons
    case h =>
      intro S w1 hwi hSi hd hcl
      apply StepOk.intro
      intro K hK
      have qy3 := (hwi.blk HY0.out (fun h => h)).k17
      go_simp
      apply hK
      · rfl
      · conv => (lhs; whnf)
      · exact hwi
    simp only [put_lit, put_none, List.set_cons_succ, List.set_cons_zero]
    apply Oblig.cons
    case h =>
      intro S w1 hwi hSi hd hcl
      apply StepOk.intro
      intro K hK
      have qy3 := (hwi.blk HY0.out (fun h => h)).k17
      go_simp
      apply hK
      · rfl
      · conv => (lhs; whnf)
      · exact hwi
    simp only [put_lit, put_none, List.set_cons_succ, List.set_cons_zero]
    apply Oblig.cons
    case h =>
      intro S w1 hwi hSi hd hcl
      apply StepOk.intro
      intro K hK
      have qy3 := (hwi.blk HY0.out (fun h => h)).k17
      go_simp
      apply hK
      · rfl
      · conv => (lhs; whnf)
      · exact hwi
    simp only [put_lit, put_none, List.set_cons_succ, List.set_cons_zero]
    apply Oblig.cons
    case h =>
      intro S w1 hwi hSi hd hcl
      apply StepOk.intro
      intro K hK
      have qy3 := (hwi.blk HY0.out (fun h => h)).k17
      go_simp
      apply hK
      · rfl
      · conv => (lhs; whnf)
      · exact hwi
    simp only [put_lit, put_none, List.set_cons_succ, List.set_cons_zero]
    apply Oblig.cons
    case h =>
      intro S w1 hwi hSi hd hcl
      apply StepOk.intro
      intro K hK
      have qy3 := (hwi.blk HY0.out (fun h => h)).k17
      go_simp
      apply hK
      · rfl
      · conv => (lhs; whnf)
      · exact hwi
    simp only [put_lit, put_none, List.set_cons_succ, List.set_cons_zero]
    apply Oblig.cons
    case h =>
      intro S w1 hwi hSi hd hcl
      apply StepOk.intro
      intro K hK
      have qy3 := (hwi.blk HY0.out (fun h => h)).k17
      go_simp
      apply hK
      · rfl
      · conv => (lhs; whnf)
      · exact hwi
    simp only [put_lit, put_none, List.set_cons_succ, List.set_cons_zero]
    apply Oblig.cons
    case h =>
      intro S w1 hwi hSi hd hcl
      apply StepOk.intro
      intro K hK
      have qy3 := (hwi.blk HY0.out (fun h => h)).k17
      go_simp
      refine (show Calls Try.prog 16 #[.agg #[i64 t, i64 s, i64 g, i64 l, i64 r, i64 k, .slice PA pn pc, .slice LA ln lc], i64 nd] w1 (Ret (i64 li) w1) from by have h := ref_Limit t s g l r k PA pn pc LA ln lc nd w1 hs0 hs1 hv0 hv1; rw [← HLI.out] at h; exact h).mono ?_
      rintro e w2 ⟨rfl, hk⟩
      apply hK
      · rfl
      · conv => (lhs; whnf)
      · exact Keep0.step hwi hk
    simp only [put_lit, put_none, List.set_cons_succ, List.set_cons_zero]
    apply Oblig.cons
    case h =>
      intro S w1 hwi hSi hd hcl
      apply StepOk.intro
      intro K hK
      have qy3 := (hwi.blk HY0.out (fun h => h)).k17
      go_simp
      apply hK
      · rfl
      · conv => (lhs; whnf)
      · exact hwi
    simp only [put_lit, put_none, List.set_cons_succ, List.set_cons_zero]
    exact Oblig.nil
  case h0 =>
    exact (Keep.refl _ _).drew
  case hend =>
    intro S wx hwi hall
    obtain ⟨w1, rfl⟩ : ∃ w1 : World, w1 = wx := ⟨_, rfl⟩
    have HY1 := hid (hwi.blk HY0.out (fun h => h))
    have HM1 := hid (HM0.out.keep hwi (fun _ _ h => h))
    have HK1 : Hid (Keep0 w w1) := hid (HK0.out.trans hwi (fun _ _ h => h))
    have qy1 := HY1.out.k17
    clear hwi hall HY0 HM0 HK0 qy0
    go_wp2_with fail
    apply wp_region_text (WI := fun S wx => Keep0 w1 wx) (by kernel_rfl) (by kernel_rfl)
    case hob =>
      apply Oblig.cons
      case h =>
        intro S w1 hwi hSi hd hcl
        apply StepOk.intro
        intro K hK
        have qy3 := (hwi.blk HY1.out (fun h => h)).k17
        go_simp
        apply hK
        · rfl
        · conv => (lhs; whnf)
        · exact hwi
      simp only [put_lit, put_none, List.set_cons_succ, List.set_cons_zero]
      apply Oblig.cons
      case h =>
        intro S w1 hwi hSi hd hcl
        apply StepOk.intro
        intro K hK
        have qy3 := (hwi.blk HY1.out (fun h => h)).k17
        go_simp
        apply hK
        · rfl
        · conv => (lhs; whnf)
        · exact hwi
      simp only [put_lit, put_none, List.set_cons_succ, List.set_cons_zero]
      apply Oblig.cons
      case h =>
        intro S w1 hwi hSi hd hcl
        apply StepOk.intro
        intro K hK
        have qy3 := (hwi.blk HY1.out (fun h => h)).k17
        go_simp
        apply hK
        · rfl
        · conv => (lhs; whnf)
        · exact hwi
      simp only [put_lit, put_none, List.set_cons_succ, List.set_cons_zero]
      apply Oblig.cons
      case h =>
        intro S w1 hwi hSi hd hcl
        apply StepOk.intro
        intro K hK
        have qy3 := (hwi.blk HY1.out (fun h => h)).k17
        go_simp
        apply hK
        · rfl
        · conv => (lhs; whnf)
        · exact hwi
      simp only [put_lit, put_none, List.set_cons_succ, List.set_cons_zero]
      apply Oblig.cons
      case h =>
        intro S w1 hwi hSi hd hcl
        apply StepOk.intro
        intro K hK
        have qy3 := (hwi.blk HY1.out (fun h => h)).k17
        go_simp
        apply hK
        · rfl
        · conv => (lhs; whnf)
        · exact hwi
      simp only [put_lit, put_none, List.set_cons_succ, List.set_cons_zero]
      apply Oblig.cons
      case h =>
        intro S w1 hwi hSi hd hcl
        apply StepOk.intro
        intro K hK
        have qy3 := (hwi.blk HY1.out (fun h => h)).k17
        go_simp
        apply hK
        · rfl
        · conv => (lhs; whnf)
        · exact hwi
      simp only [put_lit, put_none, List.set_cons_succ, List.set_cons_zero]
      apply Oblig.cons
      case h =>
        intro S w1 hwi hSi hd hcl
        apply StepOk.intro
        intro K hK
        have qy3 := (hwi.blk HY1.out (fun h => h)).k17
        go_simp
        apply hK
        · rfl
        · conv => (lhs; whnf)
        · exact hwi
      simp only [put_lit, put_none, List.set_cons_succ, List.set_cons_zero]
      apply Oblig.cons
      case h =>
        intro S w1 hwi hSi hd hcl
        apply StepOk.intro
        intro K hK
        have qy3 := (hwi.blk HY1.out (fun h => h)).k17
        go_simp
        apply hK
        · rfl
        · conv => (lhs; whnf)
        · exact hwi
      simp only [put_lit, put_none, List.set_cons_succ, List.set_cons_zero]
      apply Oblig.cons
      case h =>
        intro S w1 hwi hSi hd hcl
        apply StepOk.intro
        intro K hK
        have qy3 := (hwi.blk HY1.out (fun h => h)).k17
        go_simp
        refine (show Calls Try.prog 17 #[.agg #[i64 t, i64 s, i64 g, i64 l, i64 r, i64 k, .slice PA pn pc, .slice LA ln lc], i64 nd] w1 (Ret (i64 av) w1) from by have h := ref_Avail t s g l r k PA pn pc LA ln lc nd w1 hs0 hs1 hv0 hv1; rw [← HAV.out] at h; exact h).mono ?_
        rintro e w2 ⟨rfl, hk⟩
        apply hK
        · rfl
        · conv => (lhs; whnf)
        · exact Keep0.step hwi hk
      simp only [put_lit, put_none, List.set_cons_succ, List.set_cons_zero]
      apply Oblig.cons
      case h =>
        intro S w1 hwi hSi hd hcl
        apply StepOk.intro
        intro K hK
        have qy3 := (hwi.blk HY1.out (fun h => h)).k17
        go_simp
        apply hK
        · rfl
        · conv => (lhs; whnf)
        · exact hwi
      simp only [put_lit, put_none, List.set_cons_succ, List.set_cons_zero]
      exact Oblig.nil
    case h0 =>
      exact (Keep.refl _ _).drew
    case hend =>
      intro S wx hwi hall
      obtain ⟨w2, rfl⟩ : ∃ w2 : World, w2 = wx := ⟨_, rfl⟩
      have HY2 := hid (hwi.blk HY1.out (fun h => h))
      have HM2 := hid (HM1.out.keep hwi (fun _ _ h => h))
      have HK2 : Hid (Keep0 w w2) := hid (HK1.out.trans hwi (fun _ _ h => h))
      have qy2 := HY2.out.k17
      clear hwi hall HY1 HM1 HK1 qy1
      go_wp2_with fail
      obtain ⟨w9, rfl⟩ : ∃ w9 : World, w9 = w2 := ⟨_, rfl⟩
      have HY9 := hid HY2.out
      have HM9 := hid HM2.out
      have HK9 := hid HK2.out
      clear HY2 HM2 HK2
      go_ret
      exact ⟨rfl, HK9.out⟩
set_option maxHeartbeats 4000000 in
theorem rsh_over1 {W : List Int} {L : List Acc} {c12 c13 c14 c15 c16 : Value} (hm : RefAt B w m A ca lv W L) (hy : Blk w y 94 [i64 2, i64 t, i64 s, i64 g, i64 l, i64 r, i64 k, .slice PA pn pc, .slice LA ln lc, i64 nd, i64 n, i64 9, c12, c13, c14, c15, c16]) (hn : 1 ≤ n ∧ n ≤ 1048576) (hs0 : 1 ≤ s) (hs1 : s ≤ 8) (hv0 : 0 ≤ nd) (hv1 : nd ≤ 1000) (hli : (li : Int) = nd * (6 + 2 * s)) (hav : (av : Int) = nd * (6 + 2 * s) + 1) :
    Calls Try.prog 53 #[ptr y, ptr m] w fun e w' => e = .returned (.bool true) ∧ Keep0 w w' := by
  have HY0 := hid hy
  have qy0 := HY0.out.k17
  have HM0 := hid hm
  have HLI := hid hli
  have HAV := hid hav
  have HK0 : Hid (Keep0 w w) := hid (Keep.refl _ _)
  have ym : IntKind.i64.wrap (-n) = -n := IntWalk.i64_in _ (by omega)
  clear hy hm hli hav
  go_enter Try.func53, Try.ntmps53
  go_wp2_with fail
  apply wp_region_text (WI := fun S wx => Keep0 w wx) (by kernel_rfl) (by kernel_rfl)
  case hob =>
    apply Oblig.cons
    case h =>
      intro S w1 hwi hSi hd hcl
      apply StepOk.intro
      intro K hK
      have qy3 := (hwi.blk HY0.out (fun h => h)).k17
      go_simp
      apply hK
      · rfl
      · conv => (lhs; whnf)
      · exact hwi
    simp only [put_lit, put_none, List.set_cons_succ, List.set_cons_zero]
    apply Oblig.cons
    case h =>
      intro S w1 hwi hSi hd hcl
      apply StepOk.intro
      intro K hK
      have qy3 := (hwi.blk HY0.out (fun h => h)).k17
      go_simp
      apply hK
      · rfl
      · conv => (lhs; whnf)
      · exact hwi
    simp only [put_lit, put_none, List.set_cons_succ, List.set_cons_zero]
    apply Oblig.cons
    case h =>
      intro S w1 hwi hSi hd hcl
      apply StepOk.intro
      intro K hK
      have qy3 := (hwi.blk HY0.out (fun h => h)).k17
      go_simp
      apply hK
      · rfl
      · conv => (lhs; whnf)
      · exact hwi
    simp only [put_lit, put_none, List.set_cons_succ, List.set_cons_zero]
    apply Oblig.cons
    case h =>
      intro S w1 hwi hSi hd hcl
      apply StepOk.intro
      intro K hK
      have qy3 := (hwi.blk HY0.out (fun h => h)).k17
      go_simp
      apply hK
      · rfl
      · conv => (lhs; whnf)
      · exact hwi
    simp only [put_lit, put_none, List.set_cons_succ, List.set_cons_zero]
    apply Oblig.cons
    case h =>
      intro S w1 hwi hSi hd hcl
      apply StepOk.intro
      intro K hK
      have qy3 := (hwi.blk HY0.out (fun h => h)).k17
      go_simp
      apply hK
      · rfl
      · conv => (lhs; whnf)
      · exact hwi
    simp only [put_lit, put_none, List.set_cons_succ, List.set_cons_zero]
    apply Oblig.cons
    case h =>
      intro S w1 hwi hSi hd hcl
      apply StepOk.intro
      intro K hK
      have qy3 := (hwi.blk HY0.out (fun h => h)).k17
      go_simp
      apply hK
      · rfl
      · conv => (lhs; whnf)
      · exact hwi
    simp only [put_lit, put_none, List.set_cons_succ, List.set_cons_zero]
    apply Oblig.cons
    case h =>
      intro S w1 hwi hSi hd hcl
      apply StepOk.intro
      intro K hK
      have qy3 := (hwi.blk HY0.out (fun h => h)).k17
      go_simp
      apply hK
      · rfl
      · conv => (lhs; whnf)
      · exact hwi
    simp only [put_lit, put_none, List.set_cons_succ, List.set_cons_zero]
    apply Oblig.cons
    case h =>
      intro S w1 hwi hSi hd hcl
      apply StepOk.intro
      intro K hK
      have qy3 := (hwi.blk HY0.out (fun h => h)).k17
      go_simp
      apply hK
      · rfl
      · conv => (lhs; whnf)
      · exact hwi
    simp only [put_lit, put_none, List.set_cons_succ, List.set_cons_zero]
    apply Oblig.cons
    case h =>
      intro S w1 hwi hSi hd hcl
      apply StepOk.intro
      intro K hK
      have qy3 := (hwi.blk HY0.out (fun h => h)).k17
      go_simp
      refine (show Calls Try.prog 16 #[.agg #[i64 t, i64 s, i64 g, i64 l, i64 r, i64 k, .slice PA pn pc, .slice LA ln lc], i64 nd] w1 (Ret (i64 li) w1) from by have h := ref_Limit t s g l r k PA pn pc LA ln lc nd w1 hs0 hs1 hv0 hv1; rw [← HLI.out] at h; exact h).mono ?_
      rintro e w2 ⟨rfl, hk⟩
      apply hK
      · rfl
      · conv => (lhs; whnf)
      · exact Keep0.step hwi hk
    simp only [put_lit, put_none, List.set_cons_succ, List.set_cons_zero]
    apply Oblig.cons
    case h =>
      intro S w1 hwi hSi hd hcl
      apply StepOk.intro
      intro K hK
      have qy3 := (hwi.blk HY0.out (fun h => h)).k17
      go_simp
      apply hK
      · rfl
      · conv => (lhs; whnf)
      · exact hwi
    simp only [put_lit, put_none, List.set_cons_succ, List.set_cons_zero]
    exact Oblig.nil
  case h0 =>
    exact (Keep.refl _ _).drew
  case hend =>
    intro S wx hwi hall
    obtain ⟨w1, rfl⟩ : ∃ w1 : World, w1 = wx := ⟨_, rfl⟩
    have HY1 := hid (hwi.blk HY0.out (fun h => h))
    have HM1 := hid (HM0.out.keep hwi (fun _ _ h => h))
    have HK1 : Hid (Keep0 w w1) := hid (HK0.out.trans hwi (fun _ _ h => h))
    have qy1 := HY1.out.k17
    clear hwi hall HY0 HM0 HK0 qy0
    go_wp2_with fail
    apply wp_region_text (WI := fun S wx => Keep0 w1 wx) (by kernel_rfl) (by kernel_rfl)
    case hob =>
      apply Oblig.cons
      case h =>
        intro S w1 hwi hSi hd hcl
        apply StepOk.intro
        intro K hK
        have qy3 := (hwi.blk HY1.out (fun h => h)).k17
        go_simp
        apply hK
        · rfl
        · conv => (lhs; whnf)
        · exact hwi
      simp only [put_lit, put_none, List.set_cons_succ, List.set_cons_zero]
      apply Oblig.cons
      case h =>
        intro S w1 hwi hSi hd hcl
        apply StepOk.intro
        intro K hK
        have qy3 := (hwi.blk HY1.out (fun h => h)).k17
        go_simp
        apply hK
        · rfl
        · conv => (lhs; whnf)
        · exact hwi
      simp only [put_lit, put_none, List.set_cons_succ, List.set_cons_zero]
      apply Oblig.cons
      case h =>
        intro S w1 hwi hSi hd hcl
        apply StepOk.intro
        intro K hK
        have qy3 := (hwi.blk HY1.out (fun h => h)).k17
        go_simp
        apply hK
        · rfl
        · conv => (lhs; whnf)
        · exact hwi
      simp only [put_lit, put_none, List.set_cons_succ, List.set_cons_zero]
      apply Oblig.cons
      case h =>
        intro S w1 hwi hSi hd hcl
        apply StepOk.intro
        intro K hK
        have qy3 := (hwi.blk HY1.out (fun h => h)).k17
        go_simp
        apply hK
        · rfl
        · conv => (lhs; whnf)
        · exact hwi
      simp only [put_lit, put_none, List.set_cons_succ, List.set_cons_zero]
      apply Oblig.cons
      case h =>
        intro S w1 hwi hSi hd hcl
        apply StepOk.intro
        intro K hK
        have qy3 := (hwi.blk HY1.out (fun h => h)).k17
        go_simp
        apply hK
        · rfl
        · conv => (lhs; whnf)
        · exact hwi
      simp only [put_lit, put_none, List.set_cons_succ, List.set_cons_zero]
      apply Oblig.cons
      case h =>
        intro S w1 hwi hSi hd hcl
        apply StepOk.intro
        intro K hK
        have qy3 := (hwi.blk HY1.out (fun h => h)).k17
        go_simp
        apply hK
        · rfl
        · conv => (lhs; whnf)
        · exact hwi
      simp only [put_lit, put_none, List.set_cons_succ, List.set_cons_zero]
      apply Oblig.cons
      case h =>
        intro S w1 hwi hSi hd hcl
        apply StepOk.intro
        intro K hK
        have qy3 := (hwi.blk HY1.out (fun h => h)).k17
        go_simp
        apply hK
        · rfl
        · conv => (lhs; whnf)
        · exact hwi
      simp only [put_lit, put_none, List.set_cons_succ, List.set_cons_zero]
      apply Oblig.cons
      case h =>
        intro S w1 hwi hSi hd hcl
        apply StepOk.intro
        intro K hK
        have qy3 := (hwi.blk HY1.out (fun h => h)).k17
        go_simp
        apply hK
        · rfl
        · conv => (lhs; whnf)
        · exact hwi
      simp only [put_lit, put_none, List.set_cons_succ, List.set_cons_zero]
      apply Oblig.cons
      case h =>
        intro S w1 hwi hSi hd hcl
        apply StepOk.intro
        intro K hK
        have qy3 := (hwi.blk HY1.out (fun h => h)).k17
        go_simp
        refine (show Calls Try.prog 17 #[.agg #[i64 t, i64 s, i64 g, i64 l, i64 r, i64 k, .slice PA pn pc, .slice LA ln lc], i64 nd] w1 (Ret (i64 av) w1) from by have h := ref_Avail t s g l r k PA pn pc LA ln lc nd w1 hs0 hs1 hv0 hv1; rw [← HAV.out] at h; exact h).mono ?_
        rintro e w2 ⟨rfl, hk⟩
        apply hK
        · rfl
        · conv => (lhs; whnf)
        · exact Keep0.step hwi hk
      simp only [put_lit, put_none, List.set_cons_succ, List.set_cons_zero]
      apply Oblig.cons
      case h =>
        intro S w1 hwi hSi hd hcl
        apply StepOk.intro
        intro K hK
        have qy3 := (hwi.blk HY1.out (fun h => h)).k17
        go_simp
        apply hK
        · rfl
        · conv => (lhs; whnf)
        · exact hwi
      simp only [put_lit, put_none, List.set_cons_succ, List.set_cons_zero]
      exact Oblig.nil
    case h0 =>
      exact (Keep.refl _ _).drew
    case hend =>
      intro S wx hwi hall
      obtain ⟨w2, rfl⟩ : ∃ w2 : World, w2 = wx := ⟨_, rfl⟩
      have HY2 := hid (hwi.blk HY1.out (fun h => h))
      have HM2 := hid (HM1.out.keep hwi (fun _ _ h => h))
      have HK2 : Hid (Keep0 w w2) := hid (HK1.out.trans hwi (fun _ _ h => h))
      have qy2 := HY2.out.k17
      clear hwi hall HY1 HM1 HK1 qy1
      go_wp2_with fail
      obtain ⟨w9, rfl⟩ : ∃ w9 : World, w9 = w2 := ⟨_, rfl⟩
      have HY9 := hid HY2.out
      have HM9 := hid HM2.out
      have HK9 := hid HK2.out
      clear HY2 HM2 HK2
      go_ret
      exact ⟨rfl, HK9.out⟩
set_option maxHeartbeats 4000000 in
theorem rsh_over2 {W : List Int} {L : List Acc} {c12 c13 c14 c15 c16 : Value} (hm : RefAt B w m A ca lv W L) (hy : Blk w y 94 [i64 3, i64 t, i64 s, i64 g, i64 l, i64 r, i64 k, .slice PA pn pc, .slice LA ln lc, i64 nd, i64 n, i64 9, c12, c13, c14, c15, c16]) (hn : 1 ≤ n ∧ n ≤ 1048576) (hs0 : 1 ≤ s) (hs1 : s ≤ 8) (hv0 : 0 ≤ nd) (hv1 : nd ≤ 1000) (hli : (li : Int) = nd * (6 + 2 * s)) (hav : (av : Int) = nd * (6 + 2 * s) + 1) :
    Calls Try.prog 53 #[ptr y, ptr m] w fun e w' => e = .returned (.bool true) ∧ Keep0 w w' := by
  have HY0 := hid hy
  have qy0 := HY0.out.k17
  have HM0 := hid hm
  have HLI := hid hli
  have HAV := hid hav
  have HK0 : Hid (Keep0 w w) := hid (Keep.refl _ _)
  have ym : IntKind.i64.wrap (-n) = -n := IntWalk.i64_in _ (by omega)
  clear hy hm hli hav
  go_enter Try.func53, Try.ntmps53
  go_wp2_with fail
  apply wp_region_text (WI := fun S wx => Keep0 w wx) (by kernel_rfl) (by kernel_rfl)
  case hob =>
    apply Oblig.cons
    case h =>
      intro S w1 hwi hSi hd hcl
      apply StepOk.intro
      intro K hK
      have qy3 := (hwi.blk HY0.out (fun h => h)).k17
      go_simp
      apply hK
      · rfl
      · conv => (lhs; whnf)
      · exact hwi
    simp only [put_lit, put_none, List.set_cons_succ, List.set_cons_zero]
    apply Oblig.cons
    case h =>
      intro S w1 hwi hSi hd hcl
      apply StepOk.intro
      intro K hK
      have qy3 := (hwi.blk HY0.out (fun h => h)).k17
      go_simp
      apply hK
      · rfl
      · conv => (lhs; whnf)
      · exact hwi
    simp only [put_lit, put_none, List.set_cons_succ, List.set_cons_zero]
    apply Oblig.cons
    case h =>
      intro S w1 hwi hSi hd hcl
      apply StepOk.intro
      intro K hK
      have qy3 := (hwi.blk HY0.out (fun h => h)).k17
      go_simp
      apply hK
      · rfl
      · conv => (lhs; whnf)
      · exact hwi
    simp only [put_lit, put_none, List.set_cons_succ, List.set_cons_zero]
    apply Oblig.cons
    case h =>
      intro S w1 hwi hSi hd hcl
      apply StepOk.intro
      intro K hK
      have qy3 := (hwi.blk HY0.out (fun h => h)).k17
      go_simp
      apply hK
      · rfl
      · conv => (lhs; whnf)
      · exact hwi
    simp only [put_lit, put_none, List.set_cons_succ, List.set_cons_zero]
    apply Oblig.cons
    case h =>
      intro S w1 hwi hSi hd hcl
      apply StepOk.intro
      intro K hK
      have qy3 := (hwi.blk HY0.out (fun h => h)).k17
      go_simp
      apply hK
      · rfl
      · conv => (lhs; whnf)
      · exact hwi
    simp only [put_lit, put_none, List.set_cons_succ, List.set_cons_zero]
    apply Oblig.cons
    case h =>
      intro S w1 hwi hSi hd hcl
      apply StepOk.intro
      intro K hK
      have qy3 := (hwi.blk HY0.out (fun h => h)).k17
      go_simp
      apply hK
      · rfl
      · conv => (lhs; whnf)
      · exact hwi
    simp only [put_lit, put_none, List.set_cons_succ, List.set_cons_zero]
    apply Oblig.cons
    case h =>
      intro S w1 hwi hSi hd hcl
      apply StepOk.intro
      intro K hK
      have qy3 := (hwi.blk HY0.out (fun h => h)).k17
      go_simp
      apply hK
      · rfl
      · conv => (lhs; whnf)
      · exact hwi
    simp only [put_lit, put_none, List.set_cons_succ, List.set_cons_zero]
    apply Oblig.cons
    case h =>
      intro S w1 hwi hSi hd hcl
      apply StepOk.intro
      intro K hK
      have qy3 := (hwi.blk HY0.out (fun h => h)).k17
      go_simp
      apply hK
      · rfl
      · conv => (lhs; whnf)
      · exact hwi
    simp only [put_lit, put_none, List.set_cons_succ, List.set_cons_zero]
    apply Oblig.cons
    case h =>
      intro S w1 hwi hSi hd hcl
      apply StepOk.intro
      intro K hK
      have qy3 := (hwi.blk HY0.out (fun h => h)).k17
      go_simp
      refine (show Calls Try.prog 16 #[.agg #[i64 t, i64 s, i64 g, i64 l, i64 r, i64 k, .slice PA pn pc, .slice LA ln lc], i64 nd] w1 (Ret (i64 li) w1) from by have h := ref_Limit t s g l r k PA pn pc LA ln lc nd w1 hs0 hs1 hv0 hv1; rw [← HLI.out] at h; exact h).mono ?_
      rintro e w2 ⟨rfl, hk⟩
      apply hK
      · rfl
      · conv => (lhs; whnf)
      · exact Keep0.step hwi hk
    simp only [put_lit, put_none, List.set_cons_succ, List.set_cons_zero]
    apply Oblig.cons
    case h =>
      intro S w1 hwi hSi hd hcl
      apply StepOk.intro
      intro K hK
      have qy3 := (hwi.blk HY0.out (fun h => h)).k17
      go_simp
      apply hK
      · rfl
      · conv => (lhs; whnf)
      · exact hwi
    simp only [put_lit, put_none, List.set_cons_succ, List.set_cons_zero]
    exact Oblig.nil
  case h0 =>
    exact (Keep.refl _ _).drew
  case hend =>
    intro S wx hwi hall
    obtain ⟨w1, rfl⟩ : ∃ w1 : World, w1 = wx := ⟨_, rfl⟩
    have HY1 := hid (hwi.blk HY0.out (fun h => h))
    have HM1 := hid (HM0.out.keep hwi (fun _ _ h => h))
    have HK1 : Hid (Keep0 w w1) := hid (HK0.out.trans hwi (fun _ _ h => h))
    have qy1 := HY1.out.k17
    clear hwi hall HY0 HM0 HK0 qy0
    go_wp2_with fail
    apply wp_region_text (WI := fun S wx => Keep0 w1 wx) (by kernel_rfl) (by kernel_rfl)
    case hob =>
      apply Oblig.cons
      case h =>
        intro S w1 hwi hSi hd hcl
        apply StepOk.intro
        intro K hK
        have qy3 := (hwi.blk HY1.out (fun h => h)).k17
        go_simp
        apply hK
        · rfl
        · conv => (lhs; whnf)
        · exact hwi
      simp only [put_lit, put_none, List.set_cons_succ, List.set_cons_zero]
      apply Oblig.cons
      case h =>
        intro S w1 hwi hSi hd hcl
        apply StepOk.intro
        intro K hK
        have qy3 := (hwi.blk HY1.out (fun h => h)).k17
        go_simp
        apply hK
        · rfl
        · conv => (lhs; whnf)
        · exact hwi
      simp only [put_lit, put_none, List.set_cons_succ, List.set_cons_zero]
      apply Oblig.cons
      case h =>
        intro S w1 hwi hSi hd hcl
        apply StepOk.intro
        intro K hK
        have qy3 := (hwi.blk HY1.out (fun h => h)).k17
        go_simp
        apply hK
        · rfl
        · conv => (lhs; whnf)
        · exact hwi
      simp only [put_lit, put_none, List.set_cons_succ, List.set_cons_zero]
      apply Oblig.cons
      case h =>
        intro S w1 hwi hSi hd hcl
        apply StepOk.intro
        intro K hK
        have qy3 := (hwi.blk HY1.out (fun h => h)).k17
        go_simp
        apply hK
        · rfl
        · conv => (lhs; whnf)
        · exact hwi
      simp only [put_lit, put_none, List.set_cons_succ, List.set_cons_zero]
      apply Oblig.cons
      case h =>
        intro S w1 hwi hSi hd hcl
        apply StepOk.intro
        intro K hK
        have qy3 := (hwi.blk HY1.out (fun h => h)).k17
        go_simp
        apply hK
        · rfl
        · conv => (lhs; whnf)
        · exact hwi
      simp only [put_lit, put_none, List.set_cons_succ, List.set_cons_zero]
      apply Oblig.cons
      case h =>
        intro S w1 hwi hSi hd hcl
        apply StepOk.intro
        intro K hK
        have qy3 := (hwi.blk HY1.out (fun h => h)).k17
        go_simp
        apply hK
        · rfl
        · conv => (lhs; whnf)
        · exact hwi
      simp only [put_lit, put_none, List.set_cons_succ, List.set_cons_zero]
      apply Oblig.cons
      case h =>
        intro S w1 hwi hSi hd hcl
        apply StepOk.intro
        intro K hK
        have qy3 := (hwi.blk HY1.out (fun h => h)).k17
        go_simp
        apply hK
        · rfl
        · conv => (lhs; whnf)
        · exact hwi
      simp only [put_lit, put_none, List.set_cons_succ, List.set_cons_zero]
      apply Oblig.cons
      case h =>
        intro S w1 hwi hSi hd hcl
        apply StepOk.intro
        intro K hK
        have qy3 := (hwi.blk HY1.out (fun h => h)).k17
        go_simp
        apply hK
        · rfl
        · conv => (lhs; whnf)
        · exact hwi
      simp only [put_lit, put_none, List.set_cons_succ, List.set_cons_zero]
      apply Oblig.cons
      case h =>
        intro S w1 hwi hSi hd hcl
        apply StepOk.intro
        intro K hK
        have qy3 := (hwi.blk HY1.out (fun h => h)).k17
        go_simp
        refine (show Calls Try.prog 17 #[.agg #[i64 t, i64 s, i64 g, i64 l, i64 r, i64 k, .slice PA pn pc, .slice LA ln lc], i64 nd] w1 (Ret (i64 av) w1) from by have h := ref_Avail t s g l r k PA pn pc LA ln lc nd w1 hs0 hs1 hv0 hv1; rw [← HAV.out] at h; exact h).mono ?_
        rintro e w2 ⟨rfl, hk⟩
        apply hK
        · rfl
        · conv => (lhs; whnf)
        · exact Keep0.step hwi hk
      simp only [put_lit, put_none, List.set_cons_succ, List.set_cons_zero]
      apply Oblig.cons
      case h =>
        intro S w1 hwi hSi hd hcl
        apply StepOk.intro
        intro K hK
        have qy3 := (hwi.blk HY1.out (fun h => h)).k17
        go_simp
        apply hK
        · rfl
        · conv => (lhs; whnf)
        · exact hwi
      simp only [put_lit, put_none, List.set_cons_succ, List.set_cons_zero]
      exact Oblig.nil
    case h0 =>
      exact (Keep.refl _ _).drew
    case hend =>
      intro S wx hwi hall
      obtain ⟨w2, rfl⟩ : ∃ w2 : World, w2 = wx := ⟨_, rfl⟩
      have HY2 := hid (hwi.blk HY1.out (fun h => h))
      have HM2 := hid (HM1.out.keep hwi (fun _ _ h => h))
      have HK2 : Hid (Keep0 w w2) := hid (HK1.out.trans hwi (fun _ _ h => h))
      have qy2 := HY2.out.k17
      clear hwi hall HY1 HM1 HK1 qy1
      go_wp2_with fail
      apply wp_region_text (WI := fun S wx => Keep0 w2 wx) (by kernel_rfl) (by kernel_rfl)
      case hob =>
        apply Oblig.cons
        case h =>
          intro S w1 hwi hSi hd hcl
          apply StepOk.intro
          intro K hK
          have qy3 := (hwi.blk HY2.out (fun h => h)).k17
          go_simp
          apply hK
          · rfl
          · conv => (lhs; whnf)
          · exact hwi
        simp only [put_lit, put_none, List.set_cons_succ, List.set_cons_zero]
        apply Oblig.cons
        case h =>
          intro S w1 hwi hSi hd hcl
          apply StepOk.intro
          intro K hK
          have qy3 := (hwi.blk HY2.out (fun h => h)).k17
          go_simp
          apply hK
          · rfl
          · conv => (lhs; whnf)
          · exact hwi
        simp only [put_lit, put_none, List.set_cons_succ, List.set_cons_zero]
        apply Oblig.cons
        case h =>
          intro S w1 hwi hSi hd hcl
          apply StepOk.intro
          intro K hK
          have qy3 := (hwi.blk HY2.out (fun h => h)).k17
          go_simp
          apply hK
          · rfl
          · conv => (lhs; whnf)
          · exact hwi
        simp only [put_lit, put_none, List.set_cons_succ, List.set_cons_zero]
        apply Oblig.cons
        case h =>
          intro S w1 hwi hSi hd hcl
          apply StepOk.intro
          intro K hK
          have qy3 := (hwi.blk HY2.out (fun h => h)).k17
          go_simp
          apply hK
          · rfl
          · conv => (lhs; whnf)
          · exact hwi
        simp only [put_lit, put_none, List.set_cons_succ, List.set_cons_zero]
        apply Oblig.cons
        case h =>
          intro S w1 hwi hSi hd hcl
          apply StepOk.intro
          intro K hK
          have qy3 := (hwi.blk HY2.out (fun h => h)).k17
          go_simp
          apply hK
          · rfl
          · conv => (lhs; whnf)
          · exact hwi
        simp only [put_lit, put_none, List.set_cons_succ, List.set_cons_zero]
        apply Oblig.cons
        case h =>
          intro S w1 hwi hSi hd hcl
          apply StepOk.intro
          intro K hK
          have qy3 := (hwi.blk HY2.out (fun h => h)).k17
          go_simp
          apply hK
          · rfl
          · conv => (lhs; whnf)
          · exact hwi
        simp only [put_lit, put_none, List.set_cons_succ, List.set_cons_zero]
        apply Oblig.cons
        case h =>
          intro S w1 hwi hSi hd hcl
          apply StepOk.intro
          intro K hK
          have qy3 := (hwi.blk HY2.out (fun h => h)).k17
          go_simp
          apply hK
          · rfl
          · conv => (lhs; whnf)
          · exact hwi
        simp only [put_lit, put_none, List.set_cons_succ, List.set_cons_zero]
        apply Oblig.cons
        case h =>
          intro S w1 hwi hSi hd hcl
          apply StepOk.intro
          intro K hK
          have qy3 := (hwi.blk HY2.out (fun h => h)).k17
          go_simp
          apply hK
          · rfl
          · conv => (lhs; whnf)
          · exact hwi
        simp only [put_lit, put_none, List.set_cons_succ, List.set_cons_zero]
        apply Oblig.cons
        case h =>
          intro S w1 hwi hSi hd hcl
          apply StepOk.intro
          intro K hK
          have qy3 := (hwi.blk HY2.out (fun h => h)).k17
          go_simp
          refine (show Calls Try.prog 17 #[.agg #[i64 t, i64 s, i64 g, i64 l, i64 r, i64 k, .slice PA pn pc, .slice LA ln lc], i64 nd] w1 (Ret (i64 av) w1) from by have h := ref_Avail t s g l r k PA pn pc LA ln lc nd w1 hs0 hs1 hv0 hv1; rw [← HAV.out] at h; exact h).mono ?_
          rintro e w2 ⟨rfl, hk⟩
          apply hK
          · rfl
          · conv => (lhs; whnf)
          · exact Keep0.step hwi hk
        simp only [put_lit, put_none, List.set_cons_succ, List.set_cons_zero]
        apply Oblig.cons
        case h =>
          intro S w1 hwi hSi hd hcl
          apply StepOk.intro
          intro K hK
          have qy3 := (hwi.blk HY2.out (fun h => h)).k17
          go_simp
          apply hK
          · rfl
          · conv => (lhs; whnf)
          · exact hwi
        simp only [put_lit, put_none, List.set_cons_succ, List.set_cons_zero]
        exact Oblig.nil
      case h0 =>
        exact (Keep.refl _ _).drew
      case hend =>
        intro S wx hwi hall
        obtain ⟨w3, rfl⟩ : ∃ w3 : World, w3 = wx := ⟨_, rfl⟩
        have HY3 := hid (hwi.blk HY2.out (fun h => h))
        have HM3 := hid (HM2.out.keep hwi (fun _ _ h => h))
        have HK3 : Hid (Keep0 w w3) := hid (HK2.out.trans hwi (fun _ _ h => h))
        have qy3 := HY3.out.k17
        clear hwi hall HY2 HM2 HK2 qy2
        go_wp2_with fail
        apply wp_region_text (WI := fun S wx => Keep0 w3 wx) (by kernel_rfl) (by kernel_rfl)
        case hob =>
          apply Oblig.cons
          case h =>
            intro S w1 hwi hSi hd hcl
            apply StepOk.intro
            intro K hK
            have qy3 := (hwi.blk HY3.out (fun h => h)).k17
            go_simp
            apply hK
            · rfl
            · conv => (lhs; whnf)
            · exact hwi
          simp only [put_lit, put_none, List.set_cons_succ, List.set_cons_zero]
          apply Oblig.cons
          case h =>
            intro S w1 hwi hSi hd hcl
            apply StepOk.intro
            intro K hK
            have qy3 := (hwi.blk HY3.out (fun h => h)).k17
            go_simp
            apply hK
            · rfl
            · conv => (lhs; whnf)
            · exact hwi
          simp only [put_lit, put_none, List.set_cons_succ, List.set_cons_zero]
          apply Oblig.cons
          case h =>
            intro S w1 hwi hSi hd hcl
            apply StepOk.intro
            intro K hK
            have qy3 := (hwi.blk HY3.out (fun h => h)).k17
            go_simp
            apply hK
            · rfl
            · conv => (lhs; whnf)
            · exact hwi
          simp only [put_lit, put_none, List.set_cons_succ, List.set_cons_zero]
          apply Oblig.cons
          case h =>
            intro S w1 hwi hSi hd hcl
            apply StepOk.intro
            intro K hK
            have qy3 := (hwi.blk HY3.out (fun h => h)).k17
            go_simp
            apply hK
            · rfl
            · conv => (lhs; whnf)
            · exact hwi
          simp only [put_lit, put_none, List.set_cons_succ, List.set_cons_zero]
          apply Oblig.cons
          case h =>
            intro S w1 hwi hSi hd hcl
            apply StepOk.intro
            intro K hK
            have qy3 := (hwi.blk HY3.out (fun h => h)).k17
            go_simp
            apply hK
            · rfl
            · conv => (lhs; whnf)
            · exact hwi
          simp only [put_lit, put_none, List.set_cons_succ, List.set_cons_zero]
          apply Oblig.cons
          case h =>
            intro S w1 hwi hSi hd hcl
            apply StepOk.intro
            intro K hK
            have qy3 := (hwi.blk HY3.out (fun h => h)).k17
            go_simp
            apply hK
            · rfl
            · conv => (lhs; whnf)
            · exact hwi
          simp only [put_lit, put_none, List.set_cons_succ, List.set_cons_zero]
          apply Oblig.cons
          case h =>
            intro S w1 hwi hSi hd hcl
            apply StepOk.intro
            intro K hK
            have qy3 := (hwi.blk HY3.out (fun h => h)).k17
            go_simp
            apply hK
            · rfl
            · conv => (lhs; whnf)
            · exact hwi
          simp only [put_lit, put_none, List.set_cons_succ, List.set_cons_zero]
          apply Oblig.cons
          case h =>
            intro S w1 hwi hSi hd hcl
            apply StepOk.intro
            intro K hK
            have qy3 := (hwi.blk HY3.out (fun h => h)).k17
            go_simp
            apply hK
            · rfl
            · conv => (lhs; whnf)
            · exact hwi
          simp only [put_lit, put_none, List.set_cons_succ, List.set_cons_zero]
          apply Oblig.cons
          case h =>
            intro S w1 hwi hSi hd hcl
            apply StepOk.intro
            intro K hK
            have qy3 := (hwi.blk HY3.out (fun h => h)).k17
            go_simp
            refine (show Calls Try.prog 16 #[.agg #[i64 t, i64 s, i64 g, i64 l, i64 r, i64 k, .slice PA pn pc, .slice LA ln lc], i64 nd] w1 (Ret (i64 li) w1) from by have h := ref_Limit t s g l r k PA pn pc LA ln lc nd w1 hs0 hs1 hv0 hv1; rw [← HLI.out] at h; exact h).mono ?_
            rintro e w2 ⟨rfl, hk⟩
            apply hK
            · rfl
            · conv => (lhs; whnf)
            · exact Keep0.step hwi hk
          simp only [put_lit, put_none, List.set_cons_succ, List.set_cons_zero]
          apply Oblig.cons
          case h =>
            intro S w1 hwi hSi hd hcl
            apply StepOk.intro
            intro K hK
            have qy3 := (hwi.blk HY3.out (fun h => h)).k17
            go_simp
            apply hK
            · rfl
            · conv => (lhs; whnf)
            · exact hwi
          simp only [put_lit, put_none, List.set_cons_succ, List.set_cons_zero]
          exact Oblig.nil
        case h0 =>
          exact (Keep.refl _ _).drew
        case hend =>
          intro S wx hwi hall
          obtain ⟨w4, rfl⟩ : ∃ w4 : World, w4 = wx := ⟨_, rfl⟩
          have HY4 := hid (hwi.blk HY3.out (fun h => h))
          have HM4 := hid (HM3.out.keep hwi (fun _ _ h => h))
          have HK4 : Hid (Keep0 w w4) := hid (HK3.out.trans hwi (fun _ _ h => h))
          have qy4 := HY4.out.k17
          clear hwi hall HY3 HM3 HK3 qy3
          go_wp2_with fail
          obtain ⟨w9, rfl⟩ : ∃ w9 : World, w9 = w4 := ⟨_, rfl⟩
          have HY9 := hid HY4.out
          have HM9 := hid HM4.out
          have HK9 := hid HK4.out
          clear HY4 HM4 HK4
          go_ret
          exact ⟨rfl, HK9.out⟩

/-- what Step leaves -/
def RShQ (B : Nat) (w : World) (m : Nat) (A : Option Addr) (lv : Value) (y kd : Nat) (t s g l r k : Int) (PA : Option Addr) (pn pc : Nat) (LA : Option Addr) (ln lc : Nat) (nd n : Int) (x : SS) (w' : World) : Prop :=
  ∃ A' c' lv', RefAt B w' m A' c' lv' x.W x.L ∧ Blk w' y 94 (rsc kd t s g l r k PA pn pc LA ln lc nd n x) ∧ Keep (fun b => (b = m ∨ lv.ownBlock = some b) ∨ b = y) w w' ∧
    (∀ b, (Value.slice A' 0 0).ownBlock = some b → (Value.slice A 0 0).ownBlock = some b ∨ w.heap.size ≤ b) ∧ (∀ b, lv'.ownBlock = some b → lv.ownBlock = some b ∨ w.heap.size ≤ b)
theorem rsh_Step (x : SS) (hm : RefAt B w m A ca lv x.W x.L) (hy : Blk w y 94 (rsc kd t s g l r k PA pn pc LA ln lc nd n x)) (hi : SInv kd (sF kd li av) (sG kd li av) n X x) (hX : 0 ≤ X ∧ X ≤ 2199023255552) (hL : x.L.length ≤ 1000000000) (hW : x.W.length ≤ 1000000) (hs0 : 1 ≤ s) (hs1 : s ≤ 8) (hv0 : 0 ≤ nd) (hv1 : nd ≤ 1000) (hli : (li : Int) = nd * (6 + 2 * s)) (hav : (av : Int) = nd * (6 + 2 * s) + 1) :
    Calls Try.prog 53 #[ptr y, ptr m] w fun e w' => e = .returned (.bool (sStp kd (sF kd li av) (sG kd li av) n x).2) ∧ RShQ B w m A lv y kd t s g l r k PA pn pc LA ln lc nd n (sStp kd (sF kd li av) (sG kd li av) n x).1 w' := by
  obtain ⟨W, L, st, saw, bad⟩ := x
  obtain ⟨lf, lg, ne, k2, n1, wf, wg, sw, nx, k0, b⟩ := hi
  simp only at *
  have hk : kd = 0 ∨ kd = 1 ∨ kd = 2 := by omega
  by_cases h3 : st = 3
  · subst h3
    have e1 : (sStp kd (sF kd li av) (sG kd li av) n ⟨W, L, 3, saw, bad⟩).1 = ⟨W, L, 3, saw, bad⟩ := sNext_over (kd := kd) (f := sF kd li av) (g := sG kd li av) (n := n) (t := ⟨W, L, 3, saw, bad⟩) rfl
    have e2 : (sStp kd (sF kd li av) (sG kd li av) n ⟨W, L, 3, saw, bad⟩).2 = true := by
      show decide ((sNext kd (sF kd li av) (sG kd li av) n ⟨W, L, 3, saw, bad⟩).st = 3) = true
      rw [sNext_over (kd := kd) (f := sF kd li av) (g := sG kd li av) (n := n) (t := ⟨W, L, 3, saw, bad⟩) rfl]; rfl
    rw [e1, e2]
    have hover : Calls Try.prog 53 #[ptr y, ptr m] w fun e w' => e = .returned (.bool true) ∧ Keep0 w w' := by
      rcases hk with rfl | rfl | rfl
      · exact rsh_over0 hm hy n1 hs0 hs1 hv0 hv1 hli hav
      · exact rsh_over1 hm hy n1 hs0 hs1 hv0 hv1 hli hav
      · exact rsh_over2 hm hy n1 hs0 hs1 hv0 hv1 hli hav
    refine hover.mono ?_
    rintro e w' ⟨rfl, hk⟩
    exact ⟨rfl, A, ca, lv, hm.keep hk (fun _ _ h => h), hk.blk hy (fun h => h), hk.mono (fun _ h => h.elim), fun _ h => Or.inl h, fun _ h => Or.inl h⟩
  · obtain rfl : bad = false := by
      cases bad with
      | false => rfl
      | true => have := b rfl; omega
    have hst : st = 0 ∨ st = 1 ∨ st = 2 := by omega
    refine Calls.mono (R := RShP B w m A lv y kd t s g l r k PA pn pc LA ln lc nd n (sNext kd (sF kd li av) (sG kd li av) n ⟨W, L, st, saw, false⟩)) ?_ (fun e w' h => ⟨h.1, h.2⟩)
    rcases hk with rfl | rfl | rfl
    · obtain rfl : st = 2 := by have := (k0 rfl).1; omega
      simp [sF, sG] at lf lg ne wf wg
      exact rsh_step02 (li := li) (av := av) hm hy (by omega) (by omega) (by omega) n1 (by omega) (by omega) (by omega) hL hW hs0 hs1 hv0 hv1 hli hav
    · simp [sF, sG] at lf lg ne wf wg
      rcases hst with rfl | rfl | rfl
      · exact rsh_step10 (li := li) (av := av) hm hy (by omega) (by omega) (by omega) n1 (by omega) (by omega) (by omega) hL hW hs0 hs1 hv0 hv1 hli hav
      · exact rsh_step11 (li := li) (av := av) hm hy (by omega) (by omega) (by omega) n1 (by omega) (by omega) (by omega) hL hW hs0 hs1 hv0 hv1 hli hav
      · exact rsh_step12 (li := li) (av := av) hm hy (by omega) (by omega) (by omega) n1 (by omega) (by omega) (by omega) hL hW hs0 hs1 hv0 hv1 hli hav
    · simp [sF, sG] at lf lg ne wf wg
      rcases hst with rfl | rfl | rfl
      · exact rsh_step20 (li := li) (av := av) hm hy (by omega) (by omega) (by omega) n1 (by omega) (by omega) (by omega) hL hW hs0 hs1 hv0 hv1 hli hav
      · exact rsh_step21 (li := li) (av := av) hm hy (by omega) (by omega) (by omega) n1 (by omega) (by omega) (by omega) hL hW hs0 hs1 hv0 hv1 hli hav
      · exact rsh_step22 (li := li) (av := av) hm hy (by omega) (by omega) (by omega) n1 (by omega) (by omega) (by omega) hL hW hs0 hs1 hv0 hv1 hli hav
set_option maxHeartbeats 1000000 in
theorem rsh_ans_any {c0 c1 c2 c3 c4 c5 c6 c7 c8 c9 c10 c11 c12 : Value} {e1 e2 : Int} (hx : Blk w y 94 [c0, c1, c2, c3, c4, c5, c6, c7, c8, c9, c10, c11, c12, i64 e1, i64 0, .bool false, i64 e2]) : Calls Try.prog 27 #[ptr y] w (Ret (.agg #[i64 e1, i64 0, .bool false, i64 e2]) w) := by
  have qx := hx.k17
  clear hx
  go_enter Try.func27, Try.ntmps27
  go_wp2
  exact bodyPost_ret (v := .agg #[i64 e1, i64 0, .bool false, i64 e2]) (by simp [results, Try.results27, go_sem]) rfl ⟨rfl, (Keep.refl _ _).alloc _⟩

/-- what the makers leave -/
def RMade (kd : Nat) (t s g l r k : Int) (pn ln : Nat) (v n : Int) (w : World) (e : Ending) (w' : World) : Prop :=
  ∃ y PA pc LA lc, e = .returned (ptr y) ∧ Blk w' y 94 [i64 ((kd : Int) + 1), i64 t, i64 s, i64 g, i64 l, i64 r, i64 k, .slice PA pn pc, .slice LA ln lc, i64 v, i64 n, i64 (if kd = 0 then 2 else 0), i64 0, i64 0, i64 0, .bool false, i64 0] ∧ Keep0 w w' ∧ w.heap.size ≤ y
set_option maxHeartbeats 2000000 in
theorem rsh_Refund (t s g l r k : Int) (P L : List Int) (pb po lb lo pc lc : Nat) (v n : Int) (w : World) (hp : P.length ≤ 1000) (hl : L.length ≤ 1000)
    (hP : ∀ i, i < P.length → w.cell? ⟨pb, po + i, none⟩ = some (i64 (rd P i))) (hL : ∀ i, i < L.length → w.cell? ⟨lb, lo + i, none⟩ = some (i64 (rd L i))) :
    Calls Try.prog 49 #[.agg #[i64 t, i64 s, i64 g, i64 l, i64 r, i64 k, .slice (some ⟨pb, po, none⟩) P.length pc, .slice (some ⟨lb, lo, none⟩) L.length lc], i64 v, i64 n] w (RMade 0 t s g l r k P.length L.length v n w) := by
  have HOW := hid (ref_Own t s g l r k P L pb po lb lo pc lc (w.alloc (.cells #[i64 t, i64 s, i64 g, i64 l, i64 r, i64 k, .slice (some ⟨pb, po, none⟩) P.length pc, .slice (some ⟨lb, lo, none⟩) L.length lc] 24)) hp hl (fun i hi => by rw [World.cell?_alloc_lt _ _ _ (World.block_lt_of_cell? _ _ (hP i hi))]; exact hP i hi) (fun i hi => by rw [World.cell?_alloc_lt _ _ _ (World.block_lt_of_cell? _ _ (hL i hi))]; exact hL i hi))
  have HK0 : Hid (Keep0 w (w.alloc (.cells #[i64 t, i64 s, i64 g, i64 l, i64 r, i64 k, .slice (some ⟨pb, po, none⟩) P.length pc, .slice (some ⟨lb, lo, none⟩) L.length lc] 24))) := hid ((Keep.refl _ _).alloc _)
  clear hP hL
  go_enter Try.func49, Try.ntmps49
  go_wp2_with fail
  refine HOW.out.mono ?_
  rintro e w1 ⟨PA, pc', LA, lc', rfl, hk⟩
  have HK1 : Hid (Keep0 w w1) := hid (Keep0.step HK0.out hk)
  clear hk
  go_wp2_with fail
  go_ret
  exact ⟨_, PA, pc', LA, lc', rfl, Blk.made rfl rfl, HK1.out.alloc _, HK1.out.size⟩
set_option maxHeartbeats 2000000 in
theorem rsh_Raise (t s g l r k : Int) (P L : List Int) (pb po lb lo pc lc : Nat) (v n : Int) (w : World) (hp : P.length ≤ 1000) (hl : L.length ≤ 1000)
    (hP : ∀ i, i < P.length → w.cell? ⟨pb, po + i, none⟩ = some (i64 (rd P i))) (hL : ∀ i, i < L.length → w.cell? ⟨lb, lo + i, none⟩ = some (i64 (rd L i))) :
    Calls Try.prog 50 #[.agg #[i64 t, i64 s, i64 g, i64 l, i64 r, i64 k, .slice (some ⟨pb, po, none⟩) P.length pc, .slice (some ⟨lb, lo, none⟩) L.length lc], i64 v, i64 n] w (RMade 1 t s g l r k P.length L.length v n w) := by
  have HOW := hid (ref_Own t s g l r k P L pb po lb lo pc lc (w.alloc (.cells #[i64 t, i64 s, i64 g, i64 l, i64 r, i64 k, .slice (some ⟨pb, po, none⟩) P.length pc, .slice (some ⟨lb, lo, none⟩) L.length lc] 24)) hp hl (fun i hi => by rw [World.cell?_alloc_lt _ _ _ (World.block_lt_of_cell? _ _ (hP i hi))]; exact hP i hi) (fun i hi => by rw [World.cell?_alloc_lt _ _ _ (World.block_lt_of_cell? _ _ (hL i hi))]; exact hL i hi))
  have HK0 : Hid (Keep0 w (w.alloc (.cells #[i64 t, i64 s, i64 g, i64 l, i64 r, i64 k, .slice (some ⟨pb, po, none⟩) P.length pc, .slice (some ⟨lb, lo, none⟩) L.length lc] 24))) := hid ((Keep.refl _ _).alloc _)
  clear hP hL
  go_enter Try.func50, Try.ntmps50
  go_wp2_with fail
  refine HOW.out.mono ?_
  rintro e w1 ⟨PA, pc', LA, lc', rfl, hk⟩
  have HK1 : Hid (Keep0 w w1) := hid (Keep0.step HK0.out hk)
  clear hk
  go_wp2_with fail
  go_ret
  exact ⟨_, PA, pc', LA, lc', rfl, Blk.made rfl rfl, HK1.out.alloc _, HK1.out.size⟩
set_option maxHeartbeats 2000000 in
theorem rsh_Lower (t s g l r k : Int) (P L : List Int) (pb po lb lo pc lc : Nat) (v n : Int) (w : World) (hp : P.length ≤ 1000) (hl : L.length ≤ 1000)
    (hP : ∀ i, i < P.length → w.cell? ⟨pb, po + i, none⟩ = some (i64 (rd P i))) (hL : ∀ i, i < L.length → w.cell? ⟨lb, lo + i, none⟩ = some (i64 (rd L i))) :
    Calls Try.prog 51 #[.agg #[i64 t, i64 s, i64 g, i64 l, i64 r, i64 k, .slice (some ⟨pb, po, none⟩) P.length pc, .slice (some ⟨lb, lo, none⟩) L.length lc], i64 v, i64 n] w (RMade 2 t s g l r k P.length L.length v n w) := by
  have HOW := hid (ref_Own t s g l r k P L pb po lb lo pc lc (w.alloc (.cells #[i64 t, i64 s, i64 g, i64 l, i64 r, i64 k, .slice (some ⟨pb, po, none⟩) P.length pc, .slice (some ⟨lb, lo, none⟩) L.length lc] 24)) hp hl (fun i hi => by rw [World.cell?_alloc_lt _ _ _ (World.block_lt_of_cell? _ _ (hP i hi))]; exact hP i hi) (fun i hi => by rw [World.cell?_alloc_lt _ _ _ (World.block_lt_of_cell? _ _ (hL i hi))]; exact hL i hi))
  have HK0 : Hid (Keep0 w (w.alloc (.cells #[i64 t, i64 s, i64 g, i64 l, i64 r, i64 k, .slice (some ⟨pb, po, none⟩) P.length pc, .slice (some ⟨lb, lo, none⟩) L.length lc] 24))) := hid ((Keep.refl _ _).alloc _)
  clear hP hL
  go_enter Try.func51, Try.ntmps51
  go_wp2_with fail
  refine HOW.out.mono ?_
  rintro e w1 ⟨PA, pc', LA, lc', rfl, hk⟩
  have HK1 : Hid (Keep0 w w1) := hid (Keep0.step HK0.out hk)
  clear hk
  go_wp2_with fail
  go_ret
  exact ⟨_, PA, pc', LA, lc', rfl, Blk.made rfl rfl, HK1.out.alloc _, HK1.out.size⟩
set_option maxHeartbeats 1000000 in
theorem law9_want (t s g l r k : Int) (P L : List Int) (pb po lb lo pc lc : Nat) (v n what : Int) (kd : Nat) (w : World) (hw : 0 ≤ what ∧ what ≤ 255) (hkd : what % 3 = kd) (hp : P.length ≤ 1000) (hl : L.length ≤ 1000)
    (hP : ∀ i, i < P.length → w.cell? ⟨pb, po + i, none⟩ = some (i64 (rd P i))) (hL : ∀ i, i < L.length → w.cell? ⟨lb, lo + i, none⟩ = some (i64 (rd L i))) :
    Calls Try.prog 24 #[.agg #[i64 t, i64 s, i64 g, i64 l, i64 r, i64 k, .slice (some ⟨pb, po, none⟩) P.length pc, .slice (some ⟨lb, lo, none⟩) L.length lc], .int .u8 what, i64 v, i64 n] w (RMade kd t s g l r k P.length L.length v n w) := by
  have hk3 : kd = 0 ∨ kd = 1 ∨ kd = 2 := by omega
  have y1 : what.tmod 3 = kd := by rw [Int.tmod_eq_emod_of_nonneg hw.1]; exact hkd
  have HB : Hid (Blk (w.alloc (.cells #[i64 t, i64 s, i64 g, i64 l, i64 r, i64 k, .slice (some ⟨pb, po, none⟩) P.length pc, .slice (some ⟨lb, lo, none⟩) L.length lc] 24)) w.heap.size 24 [i64 t, i64 s, i64 g, i64 l, i64 r, i64 k, .slice (some ⟨pb, po, none⟩) P.length pc, .slice (some ⟨lb, lo, none⟩) L.length lc]) := hid (Blk.made rfl rfl)
  have HK0 : Hid (Keep0 w (w.alloc (.cells #[i64 t, i64 s, i64 g, i64 l, i64 r, i64 k, .slice (some ⟨pb, po, none⟩) P.length pc, .slice (some ⟨lb, lo, none⟩) L.length lc] 24))) := hid ((Keep.refl _ _).alloc _)
  have HP := hid (fun i (hi : i < P.length) => (by rw [World.cell?_alloc_lt _ _ _ (World.block_lt_of_cell? _ _ (hP i hi))]; exact hP i hi : (w.alloc (.cells #[i64 t, i64 s, i64 g, i64 l, i64 r, i64 k, .slice (some ⟨pb, po, none⟩) P.length pc, .slice (some ⟨lb, lo, none⟩) L.length lc] 24)).cell? ⟨pb, po + i, none⟩ = some (i64 (rd P i))))
  have HL := hid (fun i (hi : i < L.length) => (by rw [World.cell?_alloc_lt _ _ _ (World.block_lt_of_cell? _ _ (hL i hi))]; exact hL i hi : (w.alloc (.cells #[i64 t, i64 s, i64 g, i64 l, i64 r, i64 k, .slice (some ⟨pb, po, none⟩) P.length pc, .slice (some ⟨lb, lo, none⟩) L.length lc] 24)).cell? ⟨lb, lo + i, none⟩ = some (i64 (rd L i))))
  have HR : Hid (∀ w2 e w', RMade kd t s g l r k P.length L.length v n w2 e w' → Keep0 w w2 → RMade kd t s g l r k P.length L.length v n w e w') := hid (by
    rintro w2 e w' ⟨y, PA, pc, LA, lc, e1, h1, h3, h4⟩ hk
    exact ⟨y, PA, pc, LA, lc, e1, h1, hk.trans h3 (fun _ _ h => h), Nat.le_trans hk.size h4⟩)
  have qb := HB.out.k8
  clear hkd hP hL
  rcases hk3 with rfl | rfl | rfl
  all_goals
    go_enter Try.func24, Try.ntmps24
    go_wp2_with fail
    first
      | refine (rsh_Refund t s g l r k P L pb po lb lo pc lc v n _ hp hl HP.out HL.out).mono ?_
      | refine (rsh_Raise t s g l r k P L pb po lb lo pc lc v n _ hp hl HP.out HL.out).mono ?_
      | refine (rsh_Lower t s g l r k P L pb po lb lo pc lc v n _ hp hl HP.out HL.out).mono ?_
    rintro e w1 hm
    have HM := hid (HR.out _ _ _ hm HK0.out)
    obtain ⟨y, PA, pc', LA, lc', rfl, -⟩ := hm
    go_wp2_with fail
    go_ret
    exact HM.out

def RShSys (B m y kd li av : Nat) (t s g l r k : Int) (PA : Option Addr) (pn pc : Nat) (LA : Option Addr) (ln lc : Nat) (nd n X : Int) (len : Nat) (A0 : Option Addr) (lv0 : Value) (N : Nat) (i : Nat) (w : World) (x : SS) : Prop :=
  ∃ A c lv, RefAt B w m A c lv x.W x.L ∧ Blk w y 94 (rsc kd t s g l r k PA pn pc LA ln lc nd n x) ∧
    (∀ b, (Value.slice A 0 0).ownBlock = some b → (Value.slice A0 0 0).ownBlock = some b ∨ N ≤ b) ∧ (∀ b, lv.ownBlock = some b → lv0.ownBlock = some b ∨ N ≤ b) ∧ x.W.length = len ∧ x.L.length ≤ i ∧ SInv kd (sF kd li av) (sG kd li av) n (X + 1048576 * i) x ∧ N ≤ w.heap.size
set_option maxHeartbeats 2000000 in
theorem play_rsh (x : SS) (K : List Pk) (A0 : Option Addr) (b o c most : Nat) (hm : RefAt B w m A ca lv x.W x.L) (hy : Blk w y 94 (rsc kd t s g l r k PA pn pc LA ln lc nd n x)) (hi : SInv kd (sF kd li av) (sG kd li av) n X x) (hL : x.L = []) (hX : 0 ≤ X ∧ X ≤ 1099511627776) (hW : x.W.length ≤ 1000000)
    (hs0 : 1 ≤ s) (hs1 : s ≤ 8) (hv0 : 0 ≤ nd) (hv1 : nd ≤ 1000) (hli : (li : Int) = nd * (6 + 2 * s)) (hav : (av : Int) = nd * (6 + 2 * s) + 1)
    (hmost : most ≤ 1000) (hl : K.length ≤ 1000000) (hok : okPokesS (sF kd li av) (sG kd li av) X K) (hA0 : 0 < K.length → A0 = some ⟨b, o, none⟩ ∧ b < w.heap.size ∧ b ≠ m ∧ b ≠ y ∧ lv.ownBlock ≠ some b)
    (hcells : ∀ i (h : i < K.length), w.cell? ⟨b, o + i * 3, none⟩ = some (i64 K[i].at_) ∧ w.cell? ⟨b, o + i * 3 + 1, none⟩ = some (i64 K[i].w) ∧ w.cell? ⟨b, o + i * 3 + 2, none⟩ = some (i64 K[i].x)) :
    Calls Try.prog 26 #[ptr m, ptr y, .slice A0 K.length c, i64 most] w fun e w' =>
      e = .returned (.tuple #[i64 (playF (sStp kd (sF kd li av) (sG kd li av) n) sPk x.W.length K most 0 x).2.1, .bool (playF (sStp kd (sF kd li av) (sG kd li av) n) sPk x.W.length K most 0 x).2.2]) ∧
      (∃ i, RShSys B m y kd li av t s g l r k PA pn pc LA ln lc nd n X x.W.length A lv w.heap.size i w' (playF (sStp kd (sF kd li av) (sG kd li av) n) sPk x.W.length K most 0 x).1) ∧ Keep (fun k => (k = m ∨ k = y ∨ lv.ownBlock = some k) ∨ w.heap.size ≤ k) w w' := by
  refine ref9_Play (RShSys B m y kd li av t s g l r k PA pn pc LA ln lc nd n X x.W.length A lv w.heap.size) (sStp kd (sF kd li av) (sG kd li av) n) sPk x.W.length y m (fun k => k = m ∨ k = y ∨ lv.ownBlock = some k) w.heap.size K A0 b o c most w x (by omega) hl hW (Nat.le_refl _) ?_ hcells ?_ ?_ ?_ ?_ ?_
  · intro h0
    obtain ⟨e, hb, hbm, hby, hbl⟩ := hA0 h0
    refine ⟨e, hb, ?_⟩
    rintro (h | h | h)
    · exact hbm h
    · exact hby h
    · exact hbl h
  · rintro i w1 x1 ⟨A1, c1, lv1, h1, _, _, _, hlen, _⟩
    exact ⟨A1, c1, lv1, by rw [← hlen]; exact h1.mem⟩
  · rintro i w1 w2 x1 ⟨A1, c1, lv1, h1, h2, h4, h5, h6, h7, h8, h9⟩ hk
    exact ⟨A1, c1, lv1, h1.keep hk (fun _ _ h => h), hk.blk h2 (fun h => h), h4, h5, h6, h7, h8, Nat.le_trans h9 hk.size⟩
  · rintro i w1 x1 j z ⟨p, hp, rfl, rfl⟩ ⟨A1, c1, lv1, h1, h2, h4, h5, h6, h7, h8, h9⟩ hi0 hi1
    refine (ref_PokeP p.w p.x h1 hi0 (by rw [h6]; exact hi1) (by omega)).mono ?_
    rintro e w2 ⟨rfl, A2, c2, lv2, g1, g2, g3, g4⟩
    have hpp := hok p hp
    refine ⟨rfl, ⟨A2, c2, lv2, g1, g2.blk h2 (rs_far h1 h2), ?_, ?_, by simp [sPk, h6], h7, h8.poke _ _ (fun e => by have := hpp (by omega); omega), Nat.le_trans h9 g2.size⟩, g2.mono ?_⟩
    · intro b hb
      rcases g3 b hb with h | h
      · exact h4 b h
      · exact Or.inr (Nat.le_trans h9 h)
    · intro b hb
      rcases g4 b hb with h | h
      · exact h5 b h
      · exact Or.inr (Nat.le_trans h9 h)
    · rintro b (h | h)
      · exact Or.inl (Or.inl h)
      · rcases h5 b h with h | h
        · exact Or.inl (Or.inr (Or.inr h))
        · exact Or.inr h
  · rintro i w1 x1 hn ⟨A1, c1, lv1, h1, h2, h4, h5, h6, h7, h8, h9⟩
    refine (rsh_Step x1 h1 h2 h8 (by omega) (by omega) (by omega) hs0 hs1 hv0 hv1 hli hav).mono ?_
    rintro e w2 ⟨rfl, A2, c2, lv2, g1, g2, g4, g5, g6⟩
    refine ⟨rfl, ⟨A2, c2, lv2, g1, g2, ?_, ?_, (sNext_len x1).trans h6, ?_, (h8.step (by omega)).more (by omega), Nat.le_trans h9 g4.size⟩, g4.mono ?_⟩
    · intro b hb
      rcases g5 b hb with h | h
      · exact h4 b h
      · exact Or.inr (Nat.le_trans h9 h)
    · intro b hb
      rcases g6 b hb with h | h
      · exact h5 b h
      · exact Or.inr (Nat.le_trans h9 h)
    · show (sNext kd (sF kd li av) (sG kd li av) n x1).L.length ≤ _
      by_cases h77 : x1.st = 3
      · rw [sNext_over h77]; omega
      · rw [sNext_log x1 (by have := h8.nx; omega)]; omega
    · rintro b ((h | h) | h)
      · exact Or.inl (Or.inl h)
      · rcases h5 b h with h | h
        · exact Or.inl (Or.inr (Or.inr h))
        · exact Or.inr h
      · exact Or.inl (Or.inr (Or.inl h))
  · exact ⟨A, ca, lv, hm, hy, fun _ h => Or.inl h, fun _ h => Or.inl h, rfl, by rw [hL]; simp, hi.more (by omega), Nat.le_refl _⟩
end
end Go.Proofs.Ytonekdolmbdniaa
