/- breadlineref07.Play: the document's machine is stepped. -/
import Derived.Test.YtlkniogapdhcpaaPlay
import Derived.Test.YtlkniogapdhcpaaRegion
namespace Go.Proofs.Ytlkniogapdhcpaa
open Go.RowKit
set_option linter.unusedVariables false
set_option linter.unusedSimpArgs false
set_option maxRecDepth 100000
section
variable {τ : Type}
set_option maxHeartbeats 4000000 in
theorem ref7_Play (Sys : Nat → World → τ → Prop) (stp : τ → τ × Bool) (pk : τ → Nat → Int → τ) (len : Nat) (y : Nat) (m : Nat) (S0 : Nat → Prop) (N : Nat) (l : List Pk) (A0 : Option Addr) (b o c : Nat) (most : Nat) (w : World) (t : τ)
    (hmost : most ≤ 1000000) (hl : l.length ≤ 1000000) (hlen : len ≤ 1000000) (hN : N ≤ w.heap.size) (hA0 : 0 < l.length → A0 = some ⟨b, o, none⟩ ∧ b < N ∧ ¬ S0 b)
    (hcells : ∀ i (h : i < l.length), w.cell? ⟨b, o + i * 3, none⟩ = some (i64 l[i].at_) ∧ w.cell? ⟨b, o + i * 3 + 1, none⟩ = some (i64 l[i].w) ∧ w.cell? ⟨b, o + i * 3 + 2, none⟩ = some (i64 l[i].x))
    (hmem : ∀ n w t, Sys n w t → ∃ A c lv, Blk w m 53 [.slice A len c, lv])
    (hkeep : ∀ n w w' t, Sys n w t → Keep (fun _ => False) w w' → Sys n w' t)
    (hpoke : ∀ n w t (i x : Int), (∃ p ∈ l, p.w = i ∧ p.x = x) → Sys n w t → 0 ≤ i → i < len → Calls Try.prog 37 #[ptr m, i64 i, i64 x] w fun e w' => e = .returned (.tuple #[]) ∧ Sys n w' (pk t i.toNat x) ∧ Keep (fun k => S0 k ∨ N ≤ k) w w')
    (hstep : ∀ n w t, n < most → Sys n w t → Calls Try.prog 38 #[ptr y, ptr m] w fun e w' => e = .returned (.bool (stp t).2) ∧ Sys (n + 1) w' (stp t).1 ∧ Keep (fun k => S0 k ∨ N ≤ k) w w')
    (hs : Sys 0 w t) :
    Calls Try.prog 20 #[ptr m, ptr y, .slice A0 l.length c, i64 most] w fun e w' =>
      e = .returned (.tuple #[i64 (playF stp pk len l most 0 t).2.1, .bool (playF stp pk len l most 0 t).2.2]) ∧ (∃ n, Sys n w' (playF stp pk len l most 0 t).1) ∧ Keep (fun k => S0 k ∨ N ≤ k) w w' := by
  go_enter Try.func20, Try.ntmps20
  go_wp2_with fail
  go_loopw [10] (fun v wr => ∃ n : Nat, n ≤ most ∧ v = .int .i64 n ∧ ∃ t', Sys n wr t' ∧ playF stp pk len l (most - n) n t' = playF stp pk len l most 0 t ∧ Keep (fun k => S0 k ∨ N ≤ k) w wr) (fun v _ => most - (intOf v).toNat)
  case atStart => exact ⟨0, Nat.zero_le _, rfl, t, hs, rfl, Keep.refl _ _⟩
  case round =>
    obtain ⟨n, hn, rfl, t', hs', hpl, hk⟩ := hrel
    have HPL := hid hpl
    have HS' := hid hs'
    have HK := hid hk
    clear hpl hs' hk hs
    by_cases hlt : n < most
    · go_wp2_with fail
      obtain ⟨wo, rfl⟩ : ∃ wo : World, wo = wr := ⟨_, rfl⟩
      go_loopw [11] (fun v wi => ∃ j : Nat, j ≤ l.length ∧ v = .int .i64 j ∧ Sys n wi (pokeAll pk len n (l.take j) t') ∧ Keep (fun k => S0 k ∨ N ≤ k) wo wi) (fun v _ => l.length - (intOf v).toNat)
      case atStart => exact ⟨0, Nat.zero_le _, rfl, HS'.out, Keep.refl _ _⟩
      case round =>
        obtain ⟨j, hj, rfl, hsj, hkj⟩ := hrel
        have HSJ := hid hsj
        have HKJ := hid hkj
        clear hsj hkj
        by_cases hjl : j < l.length
        · obtain ⟨rfl, hb, hbS⟩ := hA0 (by omega)
          have hbw : b < wo.heap.size := Nat.lt_of_lt_of_le hb (Nat.le_trans hN HK.out.size)
          have hbS' : ¬ (S0 b ∨ N ≤ b) := fun h => h.elim hbS (by omega)
          obtain ⟨a1, a2, a3⟩ := hcells j hjl
          rw [← cell_old HK.out (Nat.lt_of_lt_of_le hb hN) hbS'] at a1 a2 a3
          have hnext : pokeAll pk len n (l.take (j + 1)) t' = if l[j].at_ = n ∧ 0 ≤ l[j].w ∧ l[j].w < (len : Int) then pk (pokeAll pk len n (l.take j) t') l[j].w.toNat l[j].x else pokeAll pk len n (l.take j) t' := by
            exact pokeAll_snoc pk len n l j hjl t'
          have hinl : ∃ p ∈ l, p.w = l[j].w ∧ p.x = l[j].x := ⟨l[j], List.getElem_mem hjl, rfl, rfl⟩
          have HIN := hid hinl
          clear hinl
          generalize l[j].at_ = pa at *
          generalize l[j].w = pw at *
          generalize l[j].x = px at *
          have HN := hid hnext
          clear hnext
          have HCL := hid (fun (wx : World) (hk : Keep (fun k => S0 k ∨ N ≤ k) wo wx) => (⟨(cell_old hk hbw hbS' _).trans a1, (cell_old hk hbw hbS' _).trans a2, (cell_old hk hbw hbS' _).trans a3, Nat.lt_of_lt_of_le hbw hk.size⟩ : wx.cell? ⟨b, o + j * 3, none⟩ = some (i64 pa) ∧ wx.cell? ⟨b, o + j * 3 + 1, none⟩ = some (i64 pw) ∧ wx.cell? ⟨b, o + j * 3 + 2, none⟩ = some (i64 px) ∧ b < wx.heap.size))
          obtain ⟨mA, mc, mlv, hmb⟩ := hmem _ _ _ HSJ.out
          have HMB := hid hmb
          clear hmb a1 a2 a3
          by_cases hA : pa = n
          · have g1 : (pa == (n : Int)) = true := by simpa using hA
            have HA := hid hA
            clear hA
            by_cases hB : 0 ≤ pw
            · have g2 : decide (0 ≤ pw) = true := by simpa using hB
              by_cases hC : pw < (len : Int)
              · have g3 : decide (pw < (len : Int)) = true := by simpa using hC
                go_wp2_with fail
                apply wp_region_text (WI := fun S wx => Keep0 wr wx) (by kernel_rfl) (by kernel_rfl)
                case hob =>
                  apply Oblig.cons
                  case h =>
                    intro S w1 hwi hSi hd hcl
                    apply StepOk.intro
                    intro K hK
                    obtain ⟨a1, a2, a3, hbz⟩ := HCL.out _ (HKJ.out.trans (hwi.mono (T := fun k => S0 k ∨ N ≤ k) (fun _ h => h.elim)) (fun _ _ h => h))
                    have qm := (hwi.blk HMB.out (fun h => h)).k2
                    go_simp
                    apply hK
                    · rfl
                    · conv => (lhs; whnf)
                    · exact hwi
                  simp only [put_lit, put_none]
                  try dsimp only [List.set_cons_succ, List.set_cons_zero]
                  apply Oblig.cons
                  case h =>
                    intro S w1 hwi hSi hd hcl
                    apply StepOk.intro
                    intro K hK
                    obtain ⟨a1, a2, a3, hbz⟩ := HCL.out _ (HKJ.out.trans (hwi.mono (T := fun k => S0 k ∨ N ≤ k) (fun _ h => h.elim)) (fun _ _ h => h))
                    have qm := (hwi.blk HMB.out (fun h => h)).k2
                    go_simp
                    apply hK
                    · rfl
                    · conv => (lhs; whnf)
                    · exact hwi
                  simp only [put_lit, put_none]
                  try dsimp only [List.set_cons_succ, List.set_cons_zero]
                  apply Oblig.cons
                  case h =>
                    intro S w1 hwi hSi hd hcl
                    apply StepOk.intro
                    intro K hK
                    obtain ⟨a1, a2, a3, hbz⟩ := HCL.out _ (HKJ.out.trans (hwi.mono (T := fun k => S0 k ∨ N ≤ k) (fun _ h => h.elim)) (fun _ _ h => h))
                    have qm := (hwi.blk HMB.out (fun h => h)).k2
                    go_simp
                    apply hK
                    · rfl
                    · conv => (lhs; whnf)
                    · exact hwi
                  simp only [put_lit, put_none]
                  try dsimp only [List.set_cons_succ, List.set_cons_zero]
                  apply Oblig.cons
                  case h =>
                    intro S w1 hwi hSi hd hcl
                    apply StepOk.intro
                    intro K hK
                    obtain ⟨a1, a2, a3, hbz⟩ := HCL.out _ (HKJ.out.trans (hwi.mono (T := fun k => S0 k ∨ N ≤ k) (fun _ h => h.elim)) (fun _ _ h => h))
                    have qm := (hwi.blk HMB.out (fun h => h)).k2
                    go_simp
                    apply hK
                    · rfl
                    · conv => (lhs; whnf)
                    · exact hwi
                  simp only [put_lit, put_none]
                  try dsimp only [List.set_cons_succ, List.set_cons_zero]
                  apply Oblig.cons
                  case h =>
                    intro S w1 hwi hSi hd hcl
                    apply StepOk.intro
                    intro K hK
                    obtain ⟨a1, a2, a3, hbz⟩ := HCL.out _ (HKJ.out.trans (hwi.mono (T := fun k => S0 k ∨ N ≤ k) (fun _ h => h.elim)) (fun _ _ h => h))
                    have qm := (hwi.blk HMB.out (fun h => h)).k2
                    go_simp
                    apply hK
                    · rfl
                    · conv => (lhs; whnf)
                    · exact hwi
                  simp only [put_lit, put_none]
                  try dsimp only [List.set_cons_succ, List.set_cons_zero]
                  apply Oblig.cons
                  case h =>
                    intro S w1 hwi hSi hd hcl
                    apply StepOk.intro
                    intro K hK
                    obtain ⟨a1, a2, a3, hbz⟩ := HCL.out _ (HKJ.out.trans (hwi.mono (T := fun k => S0 k ∨ N ≤ k) (fun _ h => h.elim)) (fun _ _ h => h))
                    have qm := (hwi.blk HMB.out (fun h => h)).k2
                    go_simp
                    apply hK
                    · rfl
                    · conv => (lhs; whnf)
                    · exact hwi
                  simp only [put_lit, put_none]
                  try dsimp only [List.set_cons_succ, List.set_cons_zero]
                  apply Oblig.cons
                  case h =>
                    intro S w1 hwi hSi hd hcl
                    apply StepOk.intro
                    intro K hK
                    obtain ⟨a1, a2, a3, hbz⟩ := HCL.out _ (HKJ.out.trans (hwi.mono (T := fun k => S0 k ∨ N ≤ k) (fun _ h => h.elim)) (fun _ _ h => h))
                    have qm := (hwi.blk HMB.out (fun h => h)).k2
                    go_simp
                    apply hK
                    · rfl
                    · conv => (lhs; whnf)
                    · exact hwi
                  simp only [put_lit, put_none]
                  try dsimp only [List.set_cons_succ, List.set_cons_zero]
                  apply Oblig.cons
                  case h =>
                    intro S w1 hwi hSi hd hcl
                    apply StepOk.intro
                    intro K hK
                    obtain ⟨a1, a2, a3, hbz⟩ := HCL.out _ (HKJ.out.trans (hwi.mono (T := fun k => S0 k ∨ N ≤ k) (fun _ h => h.elim)) (fun _ _ h => h))
                    have qm := (hwi.blk HMB.out (fun h => h)).k2
                    go_simp
                    apply hK
                    · rfl
                    · conv => (lhs; whnf)
                    · exact hwi
                  simp only [put_lit, put_none]
                  try dsimp only [List.set_cons_succ, List.set_cons_zero]
                  apply Oblig.cons
                  case h =>
                    intro S w1 hwi hSi hd hcl
                    apply StepOk.intro
                    intro K hK
                    obtain ⟨a1, a2, a3, hbz⟩ := HCL.out _ (HKJ.out.trans (hwi.mono (T := fun k => S0 k ∨ N ≤ k) (fun _ h => h.elim)) (fun _ _ h => h))
                    have qm := (hwi.blk HMB.out (fun h => h)).k2
                    go_simp
                    apply hK
                    · rfl
                    · conv => (lhs; whnf)
                    · exact hwi
                  simp only [put_lit, put_none]
                  try dsimp only [List.set_cons_succ, List.set_cons_zero]
                  apply Oblig.cons
                  case h =>
                    intro S w1 hwi hSi hd hcl
                    apply StepOk.intro
                    intro K hK
                    obtain ⟨a1, a2, a3, hbz⟩ := HCL.out _ (HKJ.out.trans (hwi.mono (T := fun k => S0 k ∨ N ≤ k) (fun _ h => h.elim)) (fun _ _ h => h))
                    have qm := (hwi.blk HMB.out (fun h => h)).k2
                    go_simp
                    apply hK
                    · rfl
                    · conv => (lhs; whnf)
                    · exact hwi
                  simp only [put_lit, put_none]
                  try dsimp only [List.set_cons_succ, List.set_cons_zero]
                  apply Oblig.cons
                  case h =>
                    intro S w1 hwi hSi hd hcl
                    apply StepOk.intro
                    intro K hK
                    obtain ⟨a1, a2, a3, hbz⟩ := HCL.out _ (HKJ.out.trans (hwi.mono (T := fun k => S0 k ∨ N ≤ k) (fun _ h => h.elim)) (fun _ _ h => h))
                    have qm := (hwi.blk HMB.out (fun h => h)).k2
                    go_simp
                    apply hK
                    · rfl
                    · conv => (lhs; whnf)
                    · exact hwi
                  simp only [put_lit, put_none]
                  try dsimp only [List.set_cons_succ, List.set_cons_zero]
                  apply Oblig.cons
                  case h =>
                    intro S w1 hwi hSi hd hcl
                    apply StepOk.intro
                    intro K hK
                    obtain ⟨a1, a2, a3, hbz⟩ := HCL.out _ (HKJ.out.trans (hwi.mono (T := fun k => S0 k ∨ N ≤ k) (fun _ h => h.elim)) (fun _ _ h => h))
                    have qm := (hwi.blk HMB.out (fun h => h)).k2
                    go_simp
                    apply hK
                    · rfl
                    · conv => (lhs; whnf)
                    · exact hwi
                  simp only [put_lit, put_none]
                  try dsimp only [List.set_cons_succ, List.set_cons_zero]
                  apply Oblig.cons
                  case h =>
                    intro S w1 hwi hSi hd hcl
                    apply StepOk.intro
                    intro K hK
                    obtain ⟨a1, a2, a3, hbz⟩ := HCL.out _ (HKJ.out.trans (hwi.mono (T := fun k => S0 k ∨ N ≤ k) (fun _ h => h.elim)) (fun _ _ h => h))
                    have qm := (hwi.blk HMB.out (fun h => h)).k2
                    go_simp
                    apply hK
                    · rfl
                    · conv => (lhs; whnf)
                    · exact hwi
                  simp only [put_lit, put_none]
                  try dsimp only [List.set_cons_succ, List.set_cons_zero]
                  apply Oblig.cons
                  case h =>
                    intro S w1 hwi hSi hd hcl
                    apply StepOk.intro
                    intro K hK
                    obtain ⟨a1, a2, a3, hbz⟩ := HCL.out _ (HKJ.out.trans (hwi.mono (T := fun k => S0 k ∨ N ≤ k) (fun _ h => h.elim)) (fun _ _ h => h))
                    have qm := (hwi.blk HMB.out (fun h => h)).k2
                    go_simp
                    apply hK
                    · rfl
                    · conv => (lhs; whnf)
                    · exact hwi
                  simp only [put_lit, put_none]
                  try dsimp only [List.set_cons_succ, List.set_cons_zero]
                  apply Oblig.cons
                  case h =>
                    intro S w1 hwi hSi hd hcl
                    apply StepOk.intro
                    intro K hK
                    obtain ⟨a1, a2, a3, hbz⟩ := HCL.out _ (HKJ.out.trans (hwi.mono (T := fun k => S0 k ∨ N ≤ k) (fun _ h => h.elim)) (fun _ _ h => h))
                    have qm := (hwi.blk HMB.out (fun h => h)).k2
                    go_simp
                    apply hK
                    · rfl
                    · conv => (lhs; whnf)
                    · exact hwi
                  simp only [put_lit, put_none]
                  try dsimp only [List.set_cons_succ, List.set_cons_zero]
                  apply Oblig.cons
                  case h =>
                    intro S w1 hwi hSi hd hcl
                    apply StepOk.intro
                    intro K hK
                    obtain ⟨a1, a2, a3, hbz⟩ := HCL.out _ (HKJ.out.trans (hwi.mono (T := fun k => S0 k ∨ N ≤ k) (fun _ h => h.elim)) (fun _ _ h => h))
                    have qm := (hwi.blk HMB.out (fun h => h)).k2
                    go_simp
                    apply hK
                    · rfl
                    · conv => (lhs; whnf)
                    · exact hwi
                  simp only [put_lit, put_none]
                  try dsimp only [List.set_cons_succ, List.set_cons_zero]
                  apply Oblig.cons
                  case h =>
                    intro S w1 hwi hSi hd hcl
                    apply StepOk.intro
                    intro K hK
                    obtain ⟨a1, a2, a3, hbz⟩ := HCL.out _ (HKJ.out.trans (hwi.mono (T := fun k => S0 k ∨ N ≤ k) (fun _ h => h.elim)) (fun _ _ h => h))
                    have qm := (hwi.blk HMB.out (fun h => h)).k2
                    go_simp
                    apply hK
                    · rfl
                    · conv => (lhs; whnf)
                    · exact hwi
                  simp only [put_lit, put_none]
                  try dsimp only [List.set_cons_succ, List.set_cons_zero]
                  apply Oblig.cons
                  case h =>
                    intro S w1 hwi hSi hd hcl
                    apply StepOk.intro
                    intro K hK
                    obtain ⟨a1, a2, a3, hbz⟩ := HCL.out _ (HKJ.out.trans (hwi.mono (T := fun k => S0 k ∨ N ≤ k) (fun _ h => h.elim)) (fun _ _ h => h))
                    have qm := (hwi.blk HMB.out (fun h => h)).k2
                    go_simp
                    apply hK
                    · rfl
                    · conv => (lhs; whnf)
                    · exact hwi
                  simp only [put_lit, put_none]
                  try dsimp only [List.set_cons_succ, List.set_cons_zero]
                  apply Oblig.cons
                  case h =>
                    intro S w1 hwi hSi hd hcl
                    apply StepOk.intro
                    intro K hK
                    obtain ⟨a1, a2, a3, hbz⟩ := HCL.out _ (HKJ.out.trans (hwi.mono (T := fun k => S0 k ∨ N ≤ k) (fun _ h => h.elim)) (fun _ _ h => h))
                    have qm := (hwi.blk HMB.out (fun h => h)).k2
                    go_simp
                    apply hK
                    · rfl
                    · conv => (lhs; whnf)
                    · exact hwi
                  simp only [put_lit, put_none]
                  try dsimp only [List.set_cons_succ, List.set_cons_zero]
                  apply Oblig.cons
                  case h =>
                    intro S w1 hwi hSi hd hcl
                    apply StepOk.intro
                    intro K hK
                    obtain ⟨a1, a2, a3, hbz⟩ := HCL.out _ (HKJ.out.trans (hwi.mono (T := fun k => S0 k ∨ N ≤ k) (fun _ h => h.elim)) (fun _ _ h => h))
                    have qm := (hwi.blk HMB.out (fun h => h)).k2
                    go_simp
                    apply hK
                    · rfl
                    · conv => (lhs; whnf)
                    · exact hwi
                  simp only [put_lit, put_none]
                  try dsimp only [List.set_cons_succ, List.set_cons_zero]
                  apply Oblig.cons
                  case h =>
                    intro S w1 hwi hSi hd hcl
                    apply StepOk.intro
                    intro K hK
                    obtain ⟨a1, a2, a3, hbz⟩ := HCL.out _ (HKJ.out.trans (hwi.mono (T := fun k => S0 k ∨ N ≤ k) (fun _ h => h.elim)) (fun _ _ h => h))
                    have qm := (hwi.blk HMB.out (fun h => h)).k2
                    go_simp
                    apply hK
                    · rfl
                    · conv => (lhs; whnf)
                    · exact hwi
                  simp only [put_lit, put_none]
                  try dsimp only [List.set_cons_succ, List.set_cons_zero]
                  apply Oblig.cons
                  case h =>
                    intro S w1 hwi hSi hd hcl
                    apply StepOk.intro
                    intro K hK
                    obtain ⟨a1, a2, a3, hbz⟩ := HCL.out _ (HKJ.out.trans (hwi.mono (T := fun k => S0 k ∨ N ≤ k) (fun _ h => h.elim)) (fun _ _ h => h))
                    have qm := (hwi.blk HMB.out (fun h => h)).k2
                    go_simp
                    apply hK
                    · rfl
                    · conv => (lhs; whnf)
                    · exact hwi
                  simp only [put_lit, put_none]
                  try dsimp only [List.set_cons_succ, List.set_cons_zero]
                  apply Oblig.cons
                  case h =>
                    intro S w1 hwi hSi hd hcl
                    apply StepOk.intro
                    intro K hK
                    obtain ⟨a1, a2, a3, hbz⟩ := HCL.out _ (HKJ.out.trans (hwi.mono (T := fun k => S0 k ∨ N ≤ k) (fun _ h => h.elim)) (fun _ _ h => h))
                    have qm := (hwi.blk HMB.out (fun h => h)).k2
                    go_simp
                    apply hK
                    · rfl
                    · conv => (lhs; whnf)
                    · exact hwi
                  simp only [put_lit, put_none]
                  try dsimp only [List.set_cons_succ, List.set_cons_zero]
                  apply Oblig.cons
                  case h =>
                    intro S w1 hwi hSi hd hcl
                    apply StepOk.intro
                    intro K hK
                    obtain ⟨a1, a2, a3, hbz⟩ := HCL.out _ (HKJ.out.trans (hwi.mono (T := fun k => S0 k ∨ N ≤ k) (fun _ h => h.elim)) (fun _ _ h => h))
                    have qm := (hwi.blk HMB.out (fun h => h)).k2
                    go_simp
                    apply hK
                    · rfl
                    · conv => (lhs; whnf)
                    · exact hwi
                  simp only [put_lit, put_none]
                  try dsimp only [List.set_cons_succ, List.set_cons_zero]
                  apply Oblig.cons
                  case h =>
                    intro S w1 hwi hSi hd hcl
                    apply StepOk.intro
                    intro K hK
                    obtain ⟨a1, a2, a3, hbz⟩ := HCL.out _ (HKJ.out.trans (hwi.mono (T := fun k => S0 k ∨ N ≤ k) (fun _ h => h.elim)) (fun _ _ h => h))
                    have qm := (hwi.blk HMB.out (fun h => h)).k2
                    go_simp
                    apply hK
                    · rfl
                    · conv => (lhs; whnf)
                    · exact hwi
                  simp only [put_lit, put_none]
                  try dsimp only [List.set_cons_succ, List.set_cons_zero]
                  apply Oblig.cons
                  case h =>
                    intro S w1 hwi hSi hd hcl
                    apply StepOk.intro
                    intro K hK
                    obtain ⟨a1, a2, a3, hbz⟩ := HCL.out _ (HKJ.out.trans (hwi.mono (T := fun k => S0 k ∨ N ≤ k) (fun _ h => h.elim)) (fun _ _ h => h))
                    have qm := (hwi.blk HMB.out (fun h => h)).k2
                    go_simp
                    apply hK
                    · rfl
                    · conv => (lhs; whnf)
                    · exact hwi
                  simp only [put_lit, put_none]
                  try dsimp only [List.set_cons_succ, List.set_cons_zero]
                  apply Oblig.cons
                  case h =>
                    intro S w1 hwi hSi hd hcl
                    apply StepOk.intro
                    intro K hK
                    obtain ⟨a1, a2, a3, hbz⟩ := HCL.out _ (HKJ.out.trans (hwi.mono (T := fun k => S0 k ∨ N ≤ k) (fun _ h => h.elim)) (fun _ _ h => h))
                    have qm := (hwi.blk HMB.out (fun h => h)).k2
                    go_simp
                    apply hK
                    · rfl
                    · conv => (lhs; whnf)
                    · exact hwi
                  simp only [put_lit, put_none]
                  try dsimp only [List.set_cons_succ, List.set_cons_zero]
                  apply Oblig.cons
                  case h =>
                    intro S w1 hwi hSi hd hcl
                    apply StepOk.intro
                    intro K hK
                    obtain ⟨a1, a2, a3, hbz⟩ := HCL.out _ (HKJ.out.trans (hwi.mono (T := fun k => S0 k ∨ N ≤ k) (fun _ h => h.elim)) (fun _ _ h => h))
                    have qm := (hwi.blk HMB.out (fun h => h)).k2
                    go_simp
                    apply hK
                    · rfl
                    · conv => (lhs; whnf)
                    · exact hwi
                  simp only [put_lit, put_none]
                  try dsimp only [List.set_cons_succ, List.set_cons_zero]
                  exact Oblig.nil
                case h0 =>
                  exact (Keep.refl _ _).drew
                case hend =>
                  intro S wx hwi hall
                  have HKX := hid (HKJ.out.trans (hwi.mono (T := fun k => S0 k ∨ N ≤ k) (fun _ h => h.elim)) (fun _ _ h => h))
                  have HSX := hid (hkeep _ _ _ _ HSJ.out hwi)
                  obtain ⟨wy, rfl⟩ : ∃ wy : World, wy = wx := ⟨_, rfl⟩
                  clear hwi hall
                  go_wp2_with fail
                  apply wp_region_text (WI := fun S wx => Keep (fun k => S0 k ∨ N ≤ k) wo wx ∧ (S 11 = false → Sys n wx (pokeAll pk len n (l.take j) t')) ∧ (S 11 = true → Sys n wx (pk (pokeAll pk len n (l.take j) t') pw.toNat px))) (by kernel_rfl) (by kernel_rfl)
                  case hob =>
                    apply Oblig.cons
                    case h =>
                      intro S w1 hwi hSi hd hcl
                      apply StepOk.intro
                      intro K hK
                      obtain ⟨a1, a2, a3, hbz⟩ := HCL.out _ hwi.1
                      go_simp
                      apply hK
                      · rfl
                      · conv => (lhs; whnf)
                      · exact hwi
                    simp only [put_lit, put_none]
                    try dsimp only [List.set_cons_succ, List.set_cons_zero]
                    apply Oblig.cons
                    case h =>
                      intro S w1 hwi hSi hd hcl
                      apply StepOk.intro
                      intro K hK
                      obtain ⟨a1, a2, a3, hbz⟩ := HCL.out _ hwi.1
                      go_simp
                      apply hK
                      · rfl
                      · conv => (lhs; whnf)
                      · exact hwi
                    simp only [put_lit, put_none]
                    try dsimp only [List.set_cons_succ, List.set_cons_zero]
                    apply Oblig.cons
                    case h =>
                      intro S w1 hwi hSi hd hcl
                      apply StepOk.intro
                      intro K hK
                      obtain ⟨a1, a2, a3, hbz⟩ := HCL.out _ hwi.1
                      go_simp
                      apply hK
                      · rfl
                      · conv => (lhs; whnf)
                      · exact hwi
                    simp only [put_lit, put_none]
                    try dsimp only [List.set_cons_succ, List.set_cons_zero]
                    apply Oblig.cons
                    case h =>
                      intro S w1 hwi hSi hd hcl
                      apply StepOk.intro
                      intro K hK
                      obtain ⟨a1, a2, a3, hbz⟩ := HCL.out _ hwi.1
                      go_simp
                      apply hK
                      · rfl
                      · conv => (lhs; whnf)
                      · exact hwi
                    simp only [put_lit, put_none]
                    try dsimp only [List.set_cons_succ, List.set_cons_zero]
                    apply Oblig.cons
                    case h =>
                      intro S w1 hwi hSi hd hcl
                      apply StepOk.intro
                      intro K hK
                      obtain ⟨a1, a2, a3, hbz⟩ := HCL.out _ hwi.1
                      go_simp
                      apply hK
                      · rfl
                      · conv => (lhs; whnf)
                      · exact hwi
                    simp only [put_lit, put_none]
                    try dsimp only [List.set_cons_succ, List.set_cons_zero]
                    apply Oblig.cons
                    case h =>
                      intro S w1 hwi hSi hd hcl
                      apply StepOk.intro
                      intro K hK
                      obtain ⟨a1, a2, a3, hbz⟩ := HCL.out _ hwi.1
                      go_simp
                      apply hK
                      · rfl
                      · conv => (lhs; whnf)
                      · exact hwi
                    simp only [put_lit, put_none]
                    try dsimp only [List.set_cons_succ, List.set_cons_zero]
                    apply Oblig.cons
                    case h =>
                      intro S w1 hwi hSi hd hcl
                      apply StepOk.intro
                      intro K hK
                      obtain ⟨a1, a2, a3, hbz⟩ := HCL.out _ hwi.1
                      go_simp
                      apply hK
                      · rfl
                      · conv => (lhs; whnf)
                      · exact hwi
                    simp only [put_lit, put_none]
                    try dsimp only [List.set_cons_succ, List.set_cons_zero]
                    apply Oblig.cons
                    case h =>
                      intro S w1 hwi hSi hd hcl
                      apply StepOk.intro
                      intro K hK
                      obtain ⟨a1, a2, a3, hbz⟩ := HCL.out _ hwi.1
                      go_simp
                      apply hK
                      · rfl
                      · conv => (lhs; whnf)
                      · exact hwi
                    simp only [put_lit, put_none]
                    try dsimp only [List.set_cons_succ, List.set_cons_zero]
                    apply Oblig.cons
                    case h =>
                      intro S w1 hwi hSi hd hcl
                      apply StepOk.intro
                      intro K hK
                      obtain ⟨a1, a2, a3, hbz⟩ := HCL.out _ hwi.1
                      go_simp
                      apply hK
                      · rfl
                      · conv => (lhs; whnf)
                      · exact hwi
                    simp only [put_lit, put_none]
                    try dsimp only [List.set_cons_succ, List.set_cons_zero]
                    apply Oblig.cons
                    case h =>
                      intro S w1 hwi hSi hd hcl
                      apply StepOk.intro
                      intro K hK
                      obtain ⟨a1, a2, a3, hbz⟩ := HCL.out _ hwi.1
                      go_simp
                      apply hK
                      · rfl
                      · conv => (lhs; whnf)
                      · exact hwi
                    simp only [put_lit, put_none]
                    try dsimp only [List.set_cons_succ, List.set_cons_zero]
                    apply Oblig.cons
                    case h =>
                      intro S w1 hwi hSi hd hcl
                      apply StepOk.intro
                      intro K hK
                      obtain ⟨a1, a2, a3, hbz⟩ := HCL.out _ hwi.1
                      go_simp
                      apply hK
                      · rfl
                      · conv => (lhs; whnf)
                      · exact hwi
                    simp only [put_lit, put_none]
                    try dsimp only [List.set_cons_succ, List.set_cons_zero]
                    apply Oblig.cons
                    case h =>
                      intro S w1 hwi hSi hd hcl
                      apply StepOk.intro
                      intro K hK
                      obtain ⟨a1, a2, a3, hbz⟩ := HCL.out _ hwi.1
                      go_simp
                      refine (hpoke n _ _ pw px HIN.out (hwi.2.1 hSi) hB hC).mono ?_
                      rintro e w2 ⟨rfl, hs2, hk2⟩
                      apply hK
                      · rfl
                      · conv => (lhs; whnf)
                      · exact ⟨hwi.1.trans hk2 (fun _ _ h => h), fun h => by simp [upd] at h, fun _ => hs2⟩
                    simp only [put_lit, put_none]
                    try dsimp only [List.set_cons_succ, List.set_cons_zero]
                    exact Oblig.nil
                  case h0 =>
                    exact ⟨HKX.out.drew, fun _ => hkeep _ _ _ _ HSX.out (Keep.refl (fun _ => False) _).drew, fun h => by cases h⟩
                  case hend =>
                    intro S wx hwi hall
                    have HSZ := hid (hwi.2.2 (hall 11 (by decide)))
                    have HKZ := hid hwi.1
                    clear hwi hall
                    go_wp2_with fail
                    go_roundw
                    case rel => exact ⟨j + 1, by omega, by go_num, by rw [HN.out, if_pos ⟨HA.out, hB, hC⟩]; exact HSZ.out, HKZ.out⟩
                    case measure => simp [intOf]; omega
              · have g3 : decide (pw < (len : Int)) = false := by simpa using hC
                have HNN := hid (fun h : pa = n ∧ 0 ≤ pw ∧ pw < (len : Int) => hC h.2.2)
                go_wp2_with fail
                apply wp_region_text (WI := fun S wx => Keep0 wr wx) (by kernel_rfl) (by kernel_rfl)
                case hob =>
                  apply Oblig.cons
                  case h =>
                    intro S w1 hwi hSi hd hcl
                    apply StepOk.intro
                    intro K hK
                    obtain ⟨a1, a2, a3, hbz⟩ := HCL.out _ (HKJ.out.trans (hwi.mono (T := fun k => S0 k ∨ N ≤ k) (fun _ h => h.elim)) (fun _ _ h => h))
                    have qm := (hwi.blk HMB.out (fun h => h)).k2
                    go_simp
                    apply hK
                    · rfl
                    · conv => (lhs; whnf)
                    · exact hwi
                  simp only [put_lit, put_none]
                  try dsimp only [List.set_cons_succ, List.set_cons_zero]
                  apply Oblig.cons
                  case h =>
                    intro S w1 hwi hSi hd hcl
                    apply StepOk.intro
                    intro K hK
                    obtain ⟨a1, a2, a3, hbz⟩ := HCL.out _ (HKJ.out.trans (hwi.mono (T := fun k => S0 k ∨ N ≤ k) (fun _ h => h.elim)) (fun _ _ h => h))
                    have qm := (hwi.blk HMB.out (fun h => h)).k2
                    go_simp
                    apply hK
                    · rfl
                    · conv => (lhs; whnf)
                    · exact hwi
                  simp only [put_lit, put_none]
                  try dsimp only [List.set_cons_succ, List.set_cons_zero]
                  apply Oblig.cons
                  case h =>
                    intro S w1 hwi hSi hd hcl
                    apply StepOk.intro
                    intro K hK
                    obtain ⟨a1, a2, a3, hbz⟩ := HCL.out _ (HKJ.out.trans (hwi.mono (T := fun k => S0 k ∨ N ≤ k) (fun _ h => h.elim)) (fun _ _ h => h))
                    have qm := (hwi.blk HMB.out (fun h => h)).k2
                    go_simp
                    apply hK
                    · rfl
                    · conv => (lhs; whnf)
                    · exact hwi
                  simp only [put_lit, put_none]
                  try dsimp only [List.set_cons_succ, List.set_cons_zero]
                  apply Oblig.cons
                  case h =>
                    intro S w1 hwi hSi hd hcl
                    apply StepOk.intro
                    intro K hK
                    obtain ⟨a1, a2, a3, hbz⟩ := HCL.out _ (HKJ.out.trans (hwi.mono (T := fun k => S0 k ∨ N ≤ k) (fun _ h => h.elim)) (fun _ _ h => h))
                    have qm := (hwi.blk HMB.out (fun h => h)).k2
                    go_simp
                    apply hK
                    · rfl
                    · conv => (lhs; whnf)
                    · exact hwi
                  simp only [put_lit, put_none]
                  try dsimp only [List.set_cons_succ, List.set_cons_zero]
                  apply Oblig.cons
                  case h =>
                    intro S w1 hwi hSi hd hcl
                    apply StepOk.intro
                    intro K hK
                    obtain ⟨a1, a2, a3, hbz⟩ := HCL.out _ (HKJ.out.trans (hwi.mono (T := fun k => S0 k ∨ N ≤ k) (fun _ h => h.elim)) (fun _ _ h => h))
                    have qm := (hwi.blk HMB.out (fun h => h)).k2
                    go_simp
                    apply hK
                    · rfl
                    · conv => (lhs; whnf)
                    · exact hwi
                  simp only [put_lit, put_none]
                  try dsimp only [List.set_cons_succ, List.set_cons_zero]
                  apply Oblig.cons
                  case h =>
                    intro S w1 hwi hSi hd hcl
                    apply StepOk.intro
                    intro K hK
                    obtain ⟨a1, a2, a3, hbz⟩ := HCL.out _ (HKJ.out.trans (hwi.mono (T := fun k => S0 k ∨ N ≤ k) (fun _ h => h.elim)) (fun _ _ h => h))
                    have qm := (hwi.blk HMB.out (fun h => h)).k2
                    go_simp
                    apply hK
                    · rfl
                    · conv => (lhs; whnf)
                    · exact hwi
                  simp only [put_lit, put_none]
                  try dsimp only [List.set_cons_succ, List.set_cons_zero]
                  apply Oblig.cons
                  case h =>
                    intro S w1 hwi hSi hd hcl
                    apply StepOk.intro
                    intro K hK
                    obtain ⟨a1, a2, a3, hbz⟩ := HCL.out _ (HKJ.out.trans (hwi.mono (T := fun k => S0 k ∨ N ≤ k) (fun _ h => h.elim)) (fun _ _ h => h))
                    have qm := (hwi.blk HMB.out (fun h => h)).k2
                    go_simp
                    apply hK
                    · rfl
                    · conv => (lhs; whnf)
                    · exact hwi
                  simp only [put_lit, put_none]
                  try dsimp only [List.set_cons_succ, List.set_cons_zero]
                  apply Oblig.cons
                  case h =>
                    intro S w1 hwi hSi hd hcl
                    apply StepOk.intro
                    intro K hK
                    obtain ⟨a1, a2, a3, hbz⟩ := HCL.out _ (HKJ.out.trans (hwi.mono (T := fun k => S0 k ∨ N ≤ k) (fun _ h => h.elim)) (fun _ _ h => h))
                    have qm := (hwi.blk HMB.out (fun h => h)).k2
                    go_simp
                    apply hK
                    · rfl
                    · conv => (lhs; whnf)
                    · exact hwi
                  simp only [put_lit, put_none]
                  try dsimp only [List.set_cons_succ, List.set_cons_zero]
                  apply Oblig.cons
                  case h =>
                    intro S w1 hwi hSi hd hcl
                    apply StepOk.intro
                    intro K hK
                    obtain ⟨a1, a2, a3, hbz⟩ := HCL.out _ (HKJ.out.trans (hwi.mono (T := fun k => S0 k ∨ N ≤ k) (fun _ h => h.elim)) (fun _ _ h => h))
                    have qm := (hwi.blk HMB.out (fun h => h)).k2
                    go_simp
                    apply hK
                    · rfl
                    · conv => (lhs; whnf)
                    · exact hwi
                  simp only [put_lit, put_none]
                  try dsimp only [List.set_cons_succ, List.set_cons_zero]
                  apply Oblig.cons
                  case h =>
                    intro S w1 hwi hSi hd hcl
                    apply StepOk.intro
                    intro K hK
                    obtain ⟨a1, a2, a3, hbz⟩ := HCL.out _ (HKJ.out.trans (hwi.mono (T := fun k => S0 k ∨ N ≤ k) (fun _ h => h.elim)) (fun _ _ h => h))
                    have qm := (hwi.blk HMB.out (fun h => h)).k2
                    go_simp
                    apply hK
                    · rfl
                    · conv => (lhs; whnf)
                    · exact hwi
                  simp only [put_lit, put_none]
                  try dsimp only [List.set_cons_succ, List.set_cons_zero]
                  apply Oblig.cons
                  case h =>
                    intro S w1 hwi hSi hd hcl
                    apply StepOk.intro
                    intro K hK
                    obtain ⟨a1, a2, a3, hbz⟩ := HCL.out _ (HKJ.out.trans (hwi.mono (T := fun k => S0 k ∨ N ≤ k) (fun _ h => h.elim)) (fun _ _ h => h))
                    have qm := (hwi.blk HMB.out (fun h => h)).k2
                    go_simp
                    apply hK
                    · rfl
                    · conv => (lhs; whnf)
                    · exact hwi
                  simp only [put_lit, put_none]
                  try dsimp only [List.set_cons_succ, List.set_cons_zero]
                  apply Oblig.cons
                  case h =>
                    intro S w1 hwi hSi hd hcl
                    apply StepOk.intro
                    intro K hK
                    obtain ⟨a1, a2, a3, hbz⟩ := HCL.out _ (HKJ.out.trans (hwi.mono (T := fun k => S0 k ∨ N ≤ k) (fun _ h => h.elim)) (fun _ _ h => h))
                    have qm := (hwi.blk HMB.out (fun h => h)).k2
                    go_simp
                    apply hK
                    · rfl
                    · conv => (lhs; whnf)
                    · exact hwi
                  simp only [put_lit, put_none]
                  try dsimp only [List.set_cons_succ, List.set_cons_zero]
                  apply Oblig.cons
                  case h =>
                    intro S w1 hwi hSi hd hcl
                    apply StepOk.intro
                    intro K hK
                    obtain ⟨a1, a2, a3, hbz⟩ := HCL.out _ (HKJ.out.trans (hwi.mono (T := fun k => S0 k ∨ N ≤ k) (fun _ h => h.elim)) (fun _ _ h => h))
                    have qm := (hwi.blk HMB.out (fun h => h)).k2
                    go_simp
                    apply hK
                    · rfl
                    · conv => (lhs; whnf)
                    · exact hwi
                  simp only [put_lit, put_none]
                  try dsimp only [List.set_cons_succ, List.set_cons_zero]
                  apply Oblig.cons
                  case h =>
                    intro S w1 hwi hSi hd hcl
                    apply StepOk.intro
                    intro K hK
                    obtain ⟨a1, a2, a3, hbz⟩ := HCL.out _ (HKJ.out.trans (hwi.mono (T := fun k => S0 k ∨ N ≤ k) (fun _ h => h.elim)) (fun _ _ h => h))
                    have qm := (hwi.blk HMB.out (fun h => h)).k2
                    go_simp
                    apply hK
                    · rfl
                    · conv => (lhs; whnf)
                    · exact hwi
                  simp only [put_lit, put_none]
                  try dsimp only [List.set_cons_succ, List.set_cons_zero]
                  apply Oblig.cons
                  case h =>
                    intro S w1 hwi hSi hd hcl
                    apply StepOk.intro
                    intro K hK
                    obtain ⟨a1, a2, a3, hbz⟩ := HCL.out _ (HKJ.out.trans (hwi.mono (T := fun k => S0 k ∨ N ≤ k) (fun _ h => h.elim)) (fun _ _ h => h))
                    have qm := (hwi.blk HMB.out (fun h => h)).k2
                    go_simp
                    apply hK
                    · rfl
                    · conv => (lhs; whnf)
                    · exact hwi
                  simp only [put_lit, put_none]
                  try dsimp only [List.set_cons_succ, List.set_cons_zero]
                  apply Oblig.cons
                  case h =>
                    intro S w1 hwi hSi hd hcl
                    apply StepOk.intro
                    intro K hK
                    obtain ⟨a1, a2, a3, hbz⟩ := HCL.out _ (HKJ.out.trans (hwi.mono (T := fun k => S0 k ∨ N ≤ k) (fun _ h => h.elim)) (fun _ _ h => h))
                    have qm := (hwi.blk HMB.out (fun h => h)).k2
                    go_simp
                    apply hK
                    · rfl
                    · conv => (lhs; whnf)
                    · exact hwi
                  simp only [put_lit, put_none]
                  try dsimp only [List.set_cons_succ, List.set_cons_zero]
                  apply Oblig.cons
                  case h =>
                    intro S w1 hwi hSi hd hcl
                    apply StepOk.intro
                    intro K hK
                    obtain ⟨a1, a2, a3, hbz⟩ := HCL.out _ (HKJ.out.trans (hwi.mono (T := fun k => S0 k ∨ N ≤ k) (fun _ h => h.elim)) (fun _ _ h => h))
                    have qm := (hwi.blk HMB.out (fun h => h)).k2
                    go_simp
                    apply hK
                    · rfl
                    · conv => (lhs; whnf)
                    · exact hwi
                  simp only [put_lit, put_none]
                  try dsimp only [List.set_cons_succ, List.set_cons_zero]
                  apply Oblig.cons
                  case h =>
                    intro S w1 hwi hSi hd hcl
                    apply StepOk.intro
                    intro K hK
                    obtain ⟨a1, a2, a3, hbz⟩ := HCL.out _ (HKJ.out.trans (hwi.mono (T := fun k => S0 k ∨ N ≤ k) (fun _ h => h.elim)) (fun _ _ h => h))
                    have qm := (hwi.blk HMB.out (fun h => h)).k2
                    go_simp
                    apply hK
                    · rfl
                    · conv => (lhs; whnf)
                    · exact hwi
                  simp only [put_lit, put_none]
                  try dsimp only [List.set_cons_succ, List.set_cons_zero]
                  apply Oblig.cons
                  case h =>
                    intro S w1 hwi hSi hd hcl
                    apply StepOk.intro
                    intro K hK
                    obtain ⟨a1, a2, a3, hbz⟩ := HCL.out _ (HKJ.out.trans (hwi.mono (T := fun k => S0 k ∨ N ≤ k) (fun _ h => h.elim)) (fun _ _ h => h))
                    have qm := (hwi.blk HMB.out (fun h => h)).k2
                    go_simp
                    apply hK
                    · rfl
                    · conv => (lhs; whnf)
                    · exact hwi
                  simp only [put_lit, put_none]
                  try dsimp only [List.set_cons_succ, List.set_cons_zero]
                  apply Oblig.cons
                  case h =>
                    intro S w1 hwi hSi hd hcl
                    apply StepOk.intro
                    intro K hK
                    obtain ⟨a1, a2, a3, hbz⟩ := HCL.out _ (HKJ.out.trans (hwi.mono (T := fun k => S0 k ∨ N ≤ k) (fun _ h => h.elim)) (fun _ _ h => h))
                    have qm := (hwi.blk HMB.out (fun h => h)).k2
                    go_simp
                    apply hK
                    · rfl
                    · conv => (lhs; whnf)
                    · exact hwi
                  simp only [put_lit, put_none]
                  try dsimp only [List.set_cons_succ, List.set_cons_zero]
                  apply Oblig.cons
                  case h =>
                    intro S w1 hwi hSi hd hcl
                    apply StepOk.intro
                    intro K hK
                    obtain ⟨a1, a2, a3, hbz⟩ := HCL.out _ (HKJ.out.trans (hwi.mono (T := fun k => S0 k ∨ N ≤ k) (fun _ h => h.elim)) (fun _ _ h => h))
                    have qm := (hwi.blk HMB.out (fun h => h)).k2
                    go_simp
                    apply hK
                    · rfl
                    · conv => (lhs; whnf)
                    · exact hwi
                  simp only [put_lit, put_none]
                  try dsimp only [List.set_cons_succ, List.set_cons_zero]
                  apply Oblig.cons
                  case h =>
                    intro S w1 hwi hSi hd hcl
                    apply StepOk.intro
                    intro K hK
                    obtain ⟨a1, a2, a3, hbz⟩ := HCL.out _ (HKJ.out.trans (hwi.mono (T := fun k => S0 k ∨ N ≤ k) (fun _ h => h.elim)) (fun _ _ h => h))
                    have qm := (hwi.blk HMB.out (fun h => h)).k2
                    go_simp
                    apply hK
                    · rfl
                    · conv => (lhs; whnf)
                    · exact hwi
                  simp only [put_lit, put_none]
                  try dsimp only [List.set_cons_succ, List.set_cons_zero]
                  apply Oblig.cons
                  case h =>
                    intro S w1 hwi hSi hd hcl
                    apply StepOk.intro
                    intro K hK
                    obtain ⟨a1, a2, a3, hbz⟩ := HCL.out _ (HKJ.out.trans (hwi.mono (T := fun k => S0 k ∨ N ≤ k) (fun _ h => h.elim)) (fun _ _ h => h))
                    have qm := (hwi.blk HMB.out (fun h => h)).k2
                    go_simp
                    apply hK
                    · rfl
                    · conv => (lhs; whnf)
                    · exact hwi
                  simp only [put_lit, put_none]
                  try dsimp only [List.set_cons_succ, List.set_cons_zero]
                  apply Oblig.cons
                  case h =>
                    intro S w1 hwi hSi hd hcl
                    apply StepOk.intro
                    intro K hK
                    obtain ⟨a1, a2, a3, hbz⟩ := HCL.out _ (HKJ.out.trans (hwi.mono (T := fun k => S0 k ∨ N ≤ k) (fun _ h => h.elim)) (fun _ _ h => h))
                    have qm := (hwi.blk HMB.out (fun h => h)).k2
                    go_simp
                    apply hK
                    · rfl
                    · conv => (lhs; whnf)
                    · exact hwi
                  simp only [put_lit, put_none]
                  try dsimp only [List.set_cons_succ, List.set_cons_zero]
                  apply Oblig.cons
                  case h =>
                    intro S w1 hwi hSi hd hcl
                    apply StepOk.intro
                    intro K hK
                    obtain ⟨a1, a2, a3, hbz⟩ := HCL.out _ (HKJ.out.trans (hwi.mono (T := fun k => S0 k ∨ N ≤ k) (fun _ h => h.elim)) (fun _ _ h => h))
                    have qm := (hwi.blk HMB.out (fun h => h)).k2
                    go_simp
                    apply hK
                    · rfl
                    · conv => (lhs; whnf)
                    · exact hwi
                  simp only [put_lit, put_none]
                  try dsimp only [List.set_cons_succ, List.set_cons_zero]
                  apply Oblig.cons
                  case h =>
                    intro S w1 hwi hSi hd hcl
                    apply StepOk.intro
                    intro K hK
                    obtain ⟨a1, a2, a3, hbz⟩ := HCL.out _ (HKJ.out.trans (hwi.mono (T := fun k => S0 k ∨ N ≤ k) (fun _ h => h.elim)) (fun _ _ h => h))
                    have qm := (hwi.blk HMB.out (fun h => h)).k2
                    go_simp
                    apply hK
                    · rfl
                    · conv => (lhs; whnf)
                    · exact hwi
                  simp only [put_lit, put_none]
                  try dsimp only [List.set_cons_succ, List.set_cons_zero]
                  apply Oblig.cons
                  case h =>
                    intro S w1 hwi hSi hd hcl
                    apply StepOk.intro
                    intro K hK
                    obtain ⟨a1, a2, a3, hbz⟩ := HCL.out _ (HKJ.out.trans (hwi.mono (T := fun k => S0 k ∨ N ≤ k) (fun _ h => h.elim)) (fun _ _ h => h))
                    have qm := (hwi.blk HMB.out (fun h => h)).k2
                    go_simp
                    apply hK
                    · rfl
                    · conv => (lhs; whnf)
                    · exact hwi
                  simp only [put_lit, put_none]
                  try dsimp only [List.set_cons_succ, List.set_cons_zero]
                  apply Oblig.cons
                  case h =>
                    intro S w1 hwi hSi hd hcl
                    apply StepOk.intro
                    intro K hK
                    obtain ⟨a1, a2, a3, hbz⟩ := HCL.out _ (HKJ.out.trans (hwi.mono (T := fun k => S0 k ∨ N ≤ k) (fun _ h => h.elim)) (fun _ _ h => h))
                    have qm := (hwi.blk HMB.out (fun h => h)).k2
                    go_simp
                    apply hK
                    · rfl
                    · conv => (lhs; whnf)
                    · exact hwi
                  simp only [put_lit, put_none]
                  try dsimp only [List.set_cons_succ, List.set_cons_zero]
                  exact Oblig.nil
                case h0 =>
                  exact (Keep.refl _ _).drew
                case hend =>
                  intro S wx hwi hall
                  have HKX := hid (HKJ.out.trans (hwi.mono (T := fun k => S0 k ∨ N ≤ k) (fun _ h => h.elim)) (fun _ _ h => h))
                  have HSX := hid (hkeep _ _ _ _ HSJ.out hwi)
                  obtain ⟨wy, rfl⟩ : ∃ wy : World, wy = wx := ⟨_, rfl⟩
                  clear hwi hall
                  go_wp2_with fail
                  go_roundw
                  case rel => exact ⟨j + 1, by omega, by go_num, by rw [HN.out, if_neg HNN.out]; exact HSX.out, HKX.out⟩
                  case measure => simp [intOf]; omega
            · have g2 : decide (0 ≤ pw) = false := by simpa using hB
              have HNN := hid (fun h : pa = n ∧ 0 ≤ pw ∧ pw < (len : Int) => hB h.2.1)
              go_wp2_with fail
              apply wp_region_text (WI := fun S wx => Keep0 wr wx) (by kernel_rfl) (by kernel_rfl)
              case hob =>
                apply Oblig.cons
                case h =>
                  intro S w1 hwi hSi hd hcl
                  apply StepOk.intro
                  intro K hK
                  obtain ⟨a1, a2, a3, hbz⟩ := HCL.out _ (HKJ.out.trans (hwi.mono (T := fun k => S0 k ∨ N ≤ k) (fun _ h => h.elim)) (fun _ _ h => h))
                  have qm := (hwi.blk HMB.out (fun h => h)).k2
                  go_simp
                  apply hK
                  · rfl
                  · conv => (lhs; whnf)
                  · exact hwi
                simp only [put_lit, put_none]
                try dsimp only [List.set_cons_succ, List.set_cons_zero]
                apply Oblig.cons
                case h =>
                  intro S w1 hwi hSi hd hcl
                  apply StepOk.intro
                  intro K hK
                  obtain ⟨a1, a2, a3, hbz⟩ := HCL.out _ (HKJ.out.trans (hwi.mono (T := fun k => S0 k ∨ N ≤ k) (fun _ h => h.elim)) (fun _ _ h => h))
                  have qm := (hwi.blk HMB.out (fun h => h)).k2
                  go_simp
                  apply hK
                  · rfl
                  · conv => (lhs; whnf)
                  · exact hwi
                simp only [put_lit, put_none]
                try dsimp only [List.set_cons_succ, List.set_cons_zero]
                apply Oblig.cons
                case h =>
                  intro S w1 hwi hSi hd hcl
                  apply StepOk.intro
                  intro K hK
                  obtain ⟨a1, a2, a3, hbz⟩ := HCL.out _ (HKJ.out.trans (hwi.mono (T := fun k => S0 k ∨ N ≤ k) (fun _ h => h.elim)) (fun _ _ h => h))
                  have qm := (hwi.blk HMB.out (fun h => h)).k2
                  go_simp
                  apply hK
                  · rfl
                  · conv => (lhs; whnf)
                  · exact hwi
                simp only [put_lit, put_none]
                try dsimp only [List.set_cons_succ, List.set_cons_zero]
                apply Oblig.cons
                case h =>
                  intro S w1 hwi hSi hd hcl
                  apply StepOk.intro
                  intro K hK
                  obtain ⟨a1, a2, a3, hbz⟩ := HCL.out _ (HKJ.out.trans (hwi.mono (T := fun k => S0 k ∨ N ≤ k) (fun _ h => h.elim)) (fun _ _ h => h))
                  have qm := (hwi.blk HMB.out (fun h => h)).k2
                  go_simp
                  apply hK
                  · rfl
                  · conv => (lhs; whnf)
                  · exact hwi
                simp only [put_lit, put_none]
                try dsimp only [List.set_cons_succ, List.set_cons_zero]
                apply Oblig.cons
                case h =>
                  intro S w1 hwi hSi hd hcl
                  apply StepOk.intro
                  intro K hK
                  obtain ⟨a1, a2, a3, hbz⟩ := HCL.out _ (HKJ.out.trans (hwi.mono (T := fun k => S0 k ∨ N ≤ k) (fun _ h => h.elim)) (fun _ _ h => h))
                  have qm := (hwi.blk HMB.out (fun h => h)).k2
                  go_simp
                  apply hK
                  · rfl
                  · conv => (lhs; whnf)
                  · exact hwi
                simp only [put_lit, put_none]
                try dsimp only [List.set_cons_succ, List.set_cons_zero]
                apply Oblig.cons
                case h =>
                  intro S w1 hwi hSi hd hcl
                  apply StepOk.intro
                  intro K hK
                  obtain ⟨a1, a2, a3, hbz⟩ := HCL.out _ (HKJ.out.trans (hwi.mono (T := fun k => S0 k ∨ N ≤ k) (fun _ h => h.elim)) (fun _ _ h => h))
                  have qm := (hwi.blk HMB.out (fun h => h)).k2
                  go_simp
                  apply hK
                  · rfl
                  · conv => (lhs; whnf)
                  · exact hwi
                simp only [put_lit, put_none]
                try dsimp only [List.set_cons_succ, List.set_cons_zero]
                apply Oblig.cons
                case h =>
                  intro S w1 hwi hSi hd hcl
                  apply StepOk.intro
                  intro K hK
                  obtain ⟨a1, a2, a3, hbz⟩ := HCL.out _ (HKJ.out.trans (hwi.mono (T := fun k => S0 k ∨ N ≤ k) (fun _ h => h.elim)) (fun _ _ h => h))
                  have qm := (hwi.blk HMB.out (fun h => h)).k2
                  go_simp
                  apply hK
                  · rfl
                  · conv => (lhs; whnf)
                  · exact hwi
                simp only [put_lit, put_none]
                try dsimp only [List.set_cons_succ, List.set_cons_zero]
                apply Oblig.cons
                case h =>
                  intro S w1 hwi hSi hd hcl
                  apply StepOk.intro
                  intro K hK
                  obtain ⟨a1, a2, a3, hbz⟩ := HCL.out _ (HKJ.out.trans (hwi.mono (T := fun k => S0 k ∨ N ≤ k) (fun _ h => h.elim)) (fun _ _ h => h))
                  have qm := (hwi.blk HMB.out (fun h => h)).k2
                  go_simp
                  apply hK
                  · rfl
                  · conv => (lhs; whnf)
                  · exact hwi
                simp only [put_lit, put_none]
                try dsimp only [List.set_cons_succ, List.set_cons_zero]
                apply Oblig.cons
                case h =>
                  intro S w1 hwi hSi hd hcl
                  apply StepOk.intro
                  intro K hK
                  obtain ⟨a1, a2, a3, hbz⟩ := HCL.out _ (HKJ.out.trans (hwi.mono (T := fun k => S0 k ∨ N ≤ k) (fun _ h => h.elim)) (fun _ _ h => h))
                  have qm := (hwi.blk HMB.out (fun h => h)).k2
                  go_simp
                  apply hK
                  · rfl
                  · conv => (lhs; whnf)
                  · exact hwi
                simp only [put_lit, put_none]
                try dsimp only [List.set_cons_succ, List.set_cons_zero]
                apply Oblig.cons
                case h =>
                  intro S w1 hwi hSi hd hcl
                  apply StepOk.intro
                  intro K hK
                  obtain ⟨a1, a2, a3, hbz⟩ := HCL.out _ (HKJ.out.trans (hwi.mono (T := fun k => S0 k ∨ N ≤ k) (fun _ h => h.elim)) (fun _ _ h => h))
                  have qm := (hwi.blk HMB.out (fun h => h)).k2
                  go_simp
                  apply hK
                  · rfl
                  · conv => (lhs; whnf)
                  · exact hwi
                simp only [put_lit, put_none]
                try dsimp only [List.set_cons_succ, List.set_cons_zero]
                apply Oblig.cons
                case h =>
                  intro S w1 hwi hSi hd hcl
                  apply StepOk.intro
                  intro K hK
                  obtain ⟨a1, a2, a3, hbz⟩ := HCL.out _ (HKJ.out.trans (hwi.mono (T := fun k => S0 k ∨ N ≤ k) (fun _ h => h.elim)) (fun _ _ h => h))
                  have qm := (hwi.blk HMB.out (fun h => h)).k2
                  go_simp
                  apply hK
                  · rfl
                  · conv => (lhs; whnf)
                  · exact hwi
                simp only [put_lit, put_none]
                try dsimp only [List.set_cons_succ, List.set_cons_zero]
                apply Oblig.cons
                case h =>
                  intro S w1 hwi hSi hd hcl
                  apply StepOk.intro
                  intro K hK
                  obtain ⟨a1, a2, a3, hbz⟩ := HCL.out _ (HKJ.out.trans (hwi.mono (T := fun k => S0 k ∨ N ≤ k) (fun _ h => h.elim)) (fun _ _ h => h))
                  have qm := (hwi.blk HMB.out (fun h => h)).k2
                  go_simp
                  apply hK
                  · rfl
                  · conv => (lhs; whnf)
                  · exact hwi
                simp only [put_lit, put_none]
                try dsimp only [List.set_cons_succ, List.set_cons_zero]
                apply Oblig.cons
                case h =>
                  intro S w1 hwi hSi hd hcl
                  apply StepOk.intro
                  intro K hK
                  obtain ⟨a1, a2, a3, hbz⟩ := HCL.out _ (HKJ.out.trans (hwi.mono (T := fun k => S0 k ∨ N ≤ k) (fun _ h => h.elim)) (fun _ _ h => h))
                  have qm := (hwi.blk HMB.out (fun h => h)).k2
                  go_simp
                  apply hK
                  · rfl
                  · conv => (lhs; whnf)
                  · exact hwi
                simp only [put_lit, put_none]
                try dsimp only [List.set_cons_succ, List.set_cons_zero]
                apply Oblig.cons
                case h =>
                  intro S w1 hwi hSi hd hcl
                  apply StepOk.intro
                  intro K hK
                  obtain ⟨a1, a2, a3, hbz⟩ := HCL.out _ (HKJ.out.trans (hwi.mono (T := fun k => S0 k ∨ N ≤ k) (fun _ h => h.elim)) (fun _ _ h => h))
                  have qm := (hwi.blk HMB.out (fun h => h)).k2
                  go_simp
                  apply hK
                  · rfl
                  · conv => (lhs; whnf)
                  · exact hwi
                simp only [put_lit, put_none]
                try dsimp only [List.set_cons_succ, List.set_cons_zero]
                apply Oblig.cons
                case h =>
                  intro S w1 hwi hSi hd hcl
                  apply StepOk.intro
                  intro K hK
                  obtain ⟨a1, a2, a3, hbz⟩ := HCL.out _ (HKJ.out.trans (hwi.mono (T := fun k => S0 k ∨ N ≤ k) (fun _ h => h.elim)) (fun _ _ h => h))
                  have qm := (hwi.blk HMB.out (fun h => h)).k2
                  go_simp
                  apply hK
                  · rfl
                  · conv => (lhs; whnf)
                  · exact hwi
                simp only [put_lit, put_none]
                try dsimp only [List.set_cons_succ, List.set_cons_zero]
                apply Oblig.cons
                case h =>
                  intro S w1 hwi hSi hd hcl
                  apply StepOk.intro
                  intro K hK
                  obtain ⟨a1, a2, a3, hbz⟩ := HCL.out _ (HKJ.out.trans (hwi.mono (T := fun k => S0 k ∨ N ≤ k) (fun _ h => h.elim)) (fun _ _ h => h))
                  have qm := (hwi.blk HMB.out (fun h => h)).k2
                  go_simp
                  apply hK
                  · rfl
                  · conv => (lhs; whnf)
                  · exact hwi
                simp only [put_lit, put_none]
                try dsimp only [List.set_cons_succ, List.set_cons_zero]
                apply Oblig.cons
                case h =>
                  intro S w1 hwi hSi hd hcl
                  apply StepOk.intro
                  intro K hK
                  obtain ⟨a1, a2, a3, hbz⟩ := HCL.out _ (HKJ.out.trans (hwi.mono (T := fun k => S0 k ∨ N ≤ k) (fun _ h => h.elim)) (fun _ _ h => h))
                  have qm := (hwi.blk HMB.out (fun h => h)).k2
                  go_simp
                  apply hK
                  · rfl
                  · conv => (lhs; whnf)
                  · exact hwi
                simp only [put_lit, put_none]
                try dsimp only [List.set_cons_succ, List.set_cons_zero]
                apply Oblig.cons
                case h =>
                  intro S w1 hwi hSi hd hcl
                  apply StepOk.intro
                  intro K hK
                  obtain ⟨a1, a2, a3, hbz⟩ := HCL.out _ (HKJ.out.trans (hwi.mono (T := fun k => S0 k ∨ N ≤ k) (fun _ h => h.elim)) (fun _ _ h => h))
                  have qm := (hwi.blk HMB.out (fun h => h)).k2
                  go_simp
                  apply hK
                  · rfl
                  · conv => (lhs; whnf)
                  · exact hwi
                simp only [put_lit, put_none]
                try dsimp only [List.set_cons_succ, List.set_cons_zero]
                apply Oblig.cons
                case h =>
                  intro S w1 hwi hSi hd hcl
                  apply StepOk.intro
                  intro K hK
                  obtain ⟨a1, a2, a3, hbz⟩ := HCL.out _ (HKJ.out.trans (hwi.mono (T := fun k => S0 k ∨ N ≤ k) (fun _ h => h.elim)) (fun _ _ h => h))
                  have qm := (hwi.blk HMB.out (fun h => h)).k2
                  go_simp
                  apply hK
                  · rfl
                  · conv => (lhs; whnf)
                  · exact hwi
                simp only [put_lit, put_none]
                try dsimp only [List.set_cons_succ, List.set_cons_zero]
                apply Oblig.cons
                case h =>
                  intro S w1 hwi hSi hd hcl
                  apply StepOk.intro
                  intro K hK
                  obtain ⟨a1, a2, a3, hbz⟩ := HCL.out _ (HKJ.out.trans (hwi.mono (T := fun k => S0 k ∨ N ≤ k) (fun _ h => h.elim)) (fun _ _ h => h))
                  have qm := (hwi.blk HMB.out (fun h => h)).k2
                  go_simp
                  apply hK
                  · rfl
                  · conv => (lhs; whnf)
                  · exact hwi
                simp only [put_lit, put_none]
                try dsimp only [List.set_cons_succ, List.set_cons_zero]
                apply Oblig.cons
                case h =>
                  intro S w1 hwi hSi hd hcl
                  apply StepOk.intro
                  intro K hK
                  obtain ⟨a1, a2, a3, hbz⟩ := HCL.out _ (HKJ.out.trans (hwi.mono (T := fun k => S0 k ∨ N ≤ k) (fun _ h => h.elim)) (fun _ _ h => h))
                  have qm := (hwi.blk HMB.out (fun h => h)).k2
                  go_simp
                  apply hK
                  · rfl
                  · conv => (lhs; whnf)
                  · exact hwi
                simp only [put_lit, put_none]
                try dsimp only [List.set_cons_succ, List.set_cons_zero]
                apply Oblig.cons
                case h =>
                  intro S w1 hwi hSi hd hcl
                  apply StepOk.intro
                  intro K hK
                  obtain ⟨a1, a2, a3, hbz⟩ := HCL.out _ (HKJ.out.trans (hwi.mono (T := fun k => S0 k ∨ N ≤ k) (fun _ h => h.elim)) (fun _ _ h => h))
                  have qm := (hwi.blk HMB.out (fun h => h)).k2
                  go_simp
                  apply hK
                  · rfl
                  · conv => (lhs; whnf)
                  · exact hwi
                simp only [put_lit, put_none]
                try dsimp only [List.set_cons_succ, List.set_cons_zero]
                apply Oblig.cons
                case h =>
                  intro S w1 hwi hSi hd hcl
                  apply StepOk.intro
                  intro K hK
                  obtain ⟨a1, a2, a3, hbz⟩ := HCL.out _ (HKJ.out.trans (hwi.mono (T := fun k => S0 k ∨ N ≤ k) (fun _ h => h.elim)) (fun _ _ h => h))
                  have qm := (hwi.blk HMB.out (fun h => h)).k2
                  go_simp
                  apply hK
                  · rfl
                  · conv => (lhs; whnf)
                  · exact hwi
                simp only [put_lit, put_none]
                try dsimp only [List.set_cons_succ, List.set_cons_zero]
                apply Oblig.cons
                case h =>
                  intro S w1 hwi hSi hd hcl
                  apply StepOk.intro
                  intro K hK
                  obtain ⟨a1, a2, a3, hbz⟩ := HCL.out _ (HKJ.out.trans (hwi.mono (T := fun k => S0 k ∨ N ≤ k) (fun _ h => h.elim)) (fun _ _ h => h))
                  have qm := (hwi.blk HMB.out (fun h => h)).k2
                  go_simp
                  apply hK
                  · rfl
                  · conv => (lhs; whnf)
                  · exact hwi
                simp only [put_lit, put_none]
                try dsimp only [List.set_cons_succ, List.set_cons_zero]
                apply Oblig.cons
                case h =>
                  intro S w1 hwi hSi hd hcl
                  apply StepOk.intro
                  intro K hK
                  obtain ⟨a1, a2, a3, hbz⟩ := HCL.out _ (HKJ.out.trans (hwi.mono (T := fun k => S0 k ∨ N ≤ k) (fun _ h => h.elim)) (fun _ _ h => h))
                  have qm := (hwi.blk HMB.out (fun h => h)).k2
                  go_simp
                  apply hK
                  · rfl
                  · conv => (lhs; whnf)
                  · exact hwi
                simp only [put_lit, put_none]
                try dsimp only [List.set_cons_succ, List.set_cons_zero]
                apply Oblig.cons
                case h =>
                  intro S w1 hwi hSi hd hcl
                  apply StepOk.intro
                  intro K hK
                  obtain ⟨a1, a2, a3, hbz⟩ := HCL.out _ (HKJ.out.trans (hwi.mono (T := fun k => S0 k ∨ N ≤ k) (fun _ h => h.elim)) (fun _ _ h => h))
                  have qm := (hwi.blk HMB.out (fun h => h)).k2
                  go_simp
                  apply hK
                  · rfl
                  · conv => (lhs; whnf)
                  · exact hwi
                simp only [put_lit, put_none]
                try dsimp only [List.set_cons_succ, List.set_cons_zero]
                apply Oblig.cons
                case h =>
                  intro S w1 hwi hSi hd hcl
                  apply StepOk.intro
                  intro K hK
                  obtain ⟨a1, a2, a3, hbz⟩ := HCL.out _ (HKJ.out.trans (hwi.mono (T := fun k => S0 k ∨ N ≤ k) (fun _ h => h.elim)) (fun _ _ h => h))
                  have qm := (hwi.blk HMB.out (fun h => h)).k2
                  go_simp
                  apply hK
                  · rfl
                  · conv => (lhs; whnf)
                  · exact hwi
                simp only [put_lit, put_none]
                try dsimp only [List.set_cons_succ, List.set_cons_zero]
                apply Oblig.cons
                case h =>
                  intro S w1 hwi hSi hd hcl
                  apply StepOk.intro
                  intro K hK
                  obtain ⟨a1, a2, a3, hbz⟩ := HCL.out _ (HKJ.out.trans (hwi.mono (T := fun k => S0 k ∨ N ≤ k) (fun _ h => h.elim)) (fun _ _ h => h))
                  have qm := (hwi.blk HMB.out (fun h => h)).k2
                  go_simp
                  apply hK
                  · rfl
                  · conv => (lhs; whnf)
                  · exact hwi
                simp only [put_lit, put_none]
                try dsimp only [List.set_cons_succ, List.set_cons_zero]
                exact Oblig.nil
              case h0 =>
                exact (Keep.refl _ _).drew
              case hend =>
                intro S wx hwi hall
                have HKX := hid (HKJ.out.trans (hwi.mono (T := fun k => S0 k ∨ N ≤ k) (fun _ h => h.elim)) (fun _ _ h => h))
                have HSX := hid (hkeep _ _ _ _ HSJ.out hwi)
                obtain ⟨wy, rfl⟩ : ∃ wy : World, wy = wx := ⟨_, rfl⟩
                clear hwi hall
                go_wp2_with fail
                go_roundw
                case rel => exact ⟨j + 1, by omega, by go_num, by rw [HN.out, if_neg HNN.out]; exact HSX.out, HKX.out⟩
                case measure => simp [intOf]; omega
          · have g1 : (pa == (n : Int)) = false := by simpa using hA
            have HNN := hid (fun h : pa = n ∧ 0 ≤ pw ∧ pw < (len : Int) => hA h.1)
            go_wp2_with fail
            apply wp_region_text (WI := fun S wx => Keep0 wr wx) (by kernel_rfl) (by kernel_rfl)
            case hob =>
              apply Oblig.cons
              case h =>
                intro S w1 hwi hSi hd hcl
                apply StepOk.intro
                intro K hK
                obtain ⟨a1, a2, a3, hbz⟩ := HCL.out _ (HKJ.out.trans (hwi.mono (T := fun k => S0 k ∨ N ≤ k) (fun _ h => h.elim)) (fun _ _ h => h))
                have qm := (hwi.blk HMB.out (fun h => h)).k2
                go_simp
                apply hK
                · rfl
                · conv => (lhs; whnf)
                · exact hwi
              simp only [put_lit, put_none]
              try dsimp only [List.set_cons_succ, List.set_cons_zero]
              apply Oblig.cons
              case h =>
                intro S w1 hwi hSi hd hcl
                apply StepOk.intro
                intro K hK
                obtain ⟨a1, a2, a3, hbz⟩ := HCL.out _ (HKJ.out.trans (hwi.mono (T := fun k => S0 k ∨ N ≤ k) (fun _ h => h.elim)) (fun _ _ h => h))
                have qm := (hwi.blk HMB.out (fun h => h)).k2
                go_simp
                apply hK
                · rfl
                · conv => (lhs; whnf)
                · exact hwi
              simp only [put_lit, put_none]
              try dsimp only [List.set_cons_succ, List.set_cons_zero]
              apply Oblig.cons
              case h =>
                intro S w1 hwi hSi hd hcl
                apply StepOk.intro
                intro K hK
                obtain ⟨a1, a2, a3, hbz⟩ := HCL.out _ (HKJ.out.trans (hwi.mono (T := fun k => S0 k ∨ N ≤ k) (fun _ h => h.elim)) (fun _ _ h => h))
                have qm := (hwi.blk HMB.out (fun h => h)).k2
                go_simp
                apply hK
                · rfl
                · conv => (lhs; whnf)
                · exact hwi
              simp only [put_lit, put_none]
              try dsimp only [List.set_cons_succ, List.set_cons_zero]
              apply Oblig.cons
              case h =>
                intro S w1 hwi hSi hd hcl
                apply StepOk.intro
                intro K hK
                obtain ⟨a1, a2, a3, hbz⟩ := HCL.out _ (HKJ.out.trans (hwi.mono (T := fun k => S0 k ∨ N ≤ k) (fun _ h => h.elim)) (fun _ _ h => h))
                have qm := (hwi.blk HMB.out (fun h => h)).k2
                go_simp
                apply hK
                · rfl
                · conv => (lhs; whnf)
                · exact hwi
              simp only [put_lit, put_none]
              try dsimp only [List.set_cons_succ, List.set_cons_zero]
              apply Oblig.cons
              case h =>
                intro S w1 hwi hSi hd hcl
                apply StepOk.intro
                intro K hK
                obtain ⟨a1, a2, a3, hbz⟩ := HCL.out _ (HKJ.out.trans (hwi.mono (T := fun k => S0 k ∨ N ≤ k) (fun _ h => h.elim)) (fun _ _ h => h))
                have qm := (hwi.blk HMB.out (fun h => h)).k2
                go_simp
                apply hK
                · rfl
                · conv => (lhs; whnf)
                · exact hwi
              simp only [put_lit, put_none]
              try dsimp only [List.set_cons_succ, List.set_cons_zero]
              apply Oblig.cons
              case h =>
                intro S w1 hwi hSi hd hcl
                apply StepOk.intro
                intro K hK
                obtain ⟨a1, a2, a3, hbz⟩ := HCL.out _ (HKJ.out.trans (hwi.mono (T := fun k => S0 k ∨ N ≤ k) (fun _ h => h.elim)) (fun _ _ h => h))
                have qm := (hwi.blk HMB.out (fun h => h)).k2
                go_simp
                apply hK
                · rfl
                · conv => (lhs; whnf)
                · exact hwi
              simp only [put_lit, put_none]
              try dsimp only [List.set_cons_succ, List.set_cons_zero]
              apply Oblig.cons
              case h =>
                intro S w1 hwi hSi hd hcl
                apply StepOk.intro
                intro K hK
                obtain ⟨a1, a2, a3, hbz⟩ := HCL.out _ (HKJ.out.trans (hwi.mono (T := fun k => S0 k ∨ N ≤ k) (fun _ h => h.elim)) (fun _ _ h => h))
                have qm := (hwi.blk HMB.out (fun h => h)).k2
                go_simp
                apply hK
                · rfl
                · conv => (lhs; whnf)
                · exact hwi
              simp only [put_lit, put_none]
              try dsimp only [List.set_cons_succ, List.set_cons_zero]
              apply Oblig.cons
              case h =>
                intro S w1 hwi hSi hd hcl
                apply StepOk.intro
                intro K hK
                obtain ⟨a1, a2, a3, hbz⟩ := HCL.out _ (HKJ.out.trans (hwi.mono (T := fun k => S0 k ∨ N ≤ k) (fun _ h => h.elim)) (fun _ _ h => h))
                have qm := (hwi.blk HMB.out (fun h => h)).k2
                go_simp
                apply hK
                · rfl
                · conv => (lhs; whnf)
                · exact hwi
              simp only [put_lit, put_none]
              try dsimp only [List.set_cons_succ, List.set_cons_zero]
              apply Oblig.cons
              case h =>
                intro S w1 hwi hSi hd hcl
                apply StepOk.intro
                intro K hK
                obtain ⟨a1, a2, a3, hbz⟩ := HCL.out _ (HKJ.out.trans (hwi.mono (T := fun k => S0 k ∨ N ≤ k) (fun _ h => h.elim)) (fun _ _ h => h))
                have qm := (hwi.blk HMB.out (fun h => h)).k2
                go_simp
                apply hK
                · rfl
                · conv => (lhs; whnf)
                · exact hwi
              simp only [put_lit, put_none]
              try dsimp only [List.set_cons_succ, List.set_cons_zero]
              apply Oblig.cons
              case h =>
                intro S w1 hwi hSi hd hcl
                apply StepOk.intro
                intro K hK
                obtain ⟨a1, a2, a3, hbz⟩ := HCL.out _ (HKJ.out.trans (hwi.mono (T := fun k => S0 k ∨ N ≤ k) (fun _ h => h.elim)) (fun _ _ h => h))
                have qm := (hwi.blk HMB.out (fun h => h)).k2
                go_simp
                apply hK
                · rfl
                · conv => (lhs; whnf)
                · exact hwi
              simp only [put_lit, put_none]
              try dsimp only [List.set_cons_succ, List.set_cons_zero]
              apply Oblig.cons
              case h =>
                intro S w1 hwi hSi hd hcl
                apply StepOk.intro
                intro K hK
                obtain ⟨a1, a2, a3, hbz⟩ := HCL.out _ (HKJ.out.trans (hwi.mono (T := fun k => S0 k ∨ N ≤ k) (fun _ h => h.elim)) (fun _ _ h => h))
                have qm := (hwi.blk HMB.out (fun h => h)).k2
                go_simp
                apply hK
                · rfl
                · conv => (lhs; whnf)
                · exact hwi
              simp only [put_lit, put_none]
              try dsimp only [List.set_cons_succ, List.set_cons_zero]
              apply Oblig.cons
              case h =>
                intro S w1 hwi hSi hd hcl
                apply StepOk.intro
                intro K hK
                obtain ⟨a1, a2, a3, hbz⟩ := HCL.out _ (HKJ.out.trans (hwi.mono (T := fun k => S0 k ∨ N ≤ k) (fun _ h => h.elim)) (fun _ _ h => h))
                have qm := (hwi.blk HMB.out (fun h => h)).k2
                go_simp
                apply hK
                · rfl
                · conv => (lhs; whnf)
                · exact hwi
              simp only [put_lit, put_none]
              try dsimp only [List.set_cons_succ, List.set_cons_zero]
              apply Oblig.cons
              case h =>
                intro S w1 hwi hSi hd hcl
                apply StepOk.intro
                intro K hK
                obtain ⟨a1, a2, a3, hbz⟩ := HCL.out _ (HKJ.out.trans (hwi.mono (T := fun k => S0 k ∨ N ≤ k) (fun _ h => h.elim)) (fun _ _ h => h))
                have qm := (hwi.blk HMB.out (fun h => h)).k2
                go_simp
                apply hK
                · rfl
                · conv => (lhs; whnf)
                · exact hwi
              simp only [put_lit, put_none]
              try dsimp only [List.set_cons_succ, List.set_cons_zero]
              apply Oblig.cons
              case h =>
                intro S w1 hwi hSi hd hcl
                apply StepOk.intro
                intro K hK
                obtain ⟨a1, a2, a3, hbz⟩ := HCL.out _ (HKJ.out.trans (hwi.mono (T := fun k => S0 k ∨ N ≤ k) (fun _ h => h.elim)) (fun _ _ h => h))
                have qm := (hwi.blk HMB.out (fun h => h)).k2
                go_simp
                apply hK
                · rfl
                · conv => (lhs; whnf)
                · exact hwi
              simp only [put_lit, put_none]
              try dsimp only [List.set_cons_succ, List.set_cons_zero]
              apply Oblig.cons
              case h =>
                intro S w1 hwi hSi hd hcl
                apply StepOk.intro
                intro K hK
                obtain ⟨a1, a2, a3, hbz⟩ := HCL.out _ (HKJ.out.trans (hwi.mono (T := fun k => S0 k ∨ N ≤ k) (fun _ h => h.elim)) (fun _ _ h => h))
                have qm := (hwi.blk HMB.out (fun h => h)).k2
                go_simp
                apply hK
                · rfl
                · conv => (lhs; whnf)
                · exact hwi
              simp only [put_lit, put_none]
              try dsimp only [List.set_cons_succ, List.set_cons_zero]
              apply Oblig.cons
              case h =>
                intro S w1 hwi hSi hd hcl
                apply StepOk.intro
                intro K hK
                obtain ⟨a1, a2, a3, hbz⟩ := HCL.out _ (HKJ.out.trans (hwi.mono (T := fun k => S0 k ∨ N ≤ k) (fun _ h => h.elim)) (fun _ _ h => h))
                have qm := (hwi.blk HMB.out (fun h => h)).k2
                go_simp
                apply hK
                · rfl
                · conv => (lhs; whnf)
                · exact hwi
              simp only [put_lit, put_none]
              try dsimp only [List.set_cons_succ, List.set_cons_zero]
              apply Oblig.cons
              case h =>
                intro S w1 hwi hSi hd hcl
                apply StepOk.intro
                intro K hK
                obtain ⟨a1, a2, a3, hbz⟩ := HCL.out _ (HKJ.out.trans (hwi.mono (T := fun k => S0 k ∨ N ≤ k) (fun _ h => h.elim)) (fun _ _ h => h))
                have qm := (hwi.blk HMB.out (fun h => h)).k2
                go_simp
                apply hK
                · rfl
                · conv => (lhs; whnf)
                · exact hwi
              simp only [put_lit, put_none]
              try dsimp only [List.set_cons_succ, List.set_cons_zero]
              apply Oblig.cons
              case h =>
                intro S w1 hwi hSi hd hcl
                apply StepOk.intro
                intro K hK
                obtain ⟨a1, a2, a3, hbz⟩ := HCL.out _ (HKJ.out.trans (hwi.mono (T := fun k => S0 k ∨ N ≤ k) (fun _ h => h.elim)) (fun _ _ h => h))
                have qm := (hwi.blk HMB.out (fun h => h)).k2
                go_simp
                apply hK
                · rfl
                · conv => (lhs; whnf)
                · exact hwi
              simp only [put_lit, put_none]
              try dsimp only [List.set_cons_succ, List.set_cons_zero]
              apply Oblig.cons
              case h =>
                intro S w1 hwi hSi hd hcl
                apply StepOk.intro
                intro K hK
                obtain ⟨a1, a2, a3, hbz⟩ := HCL.out _ (HKJ.out.trans (hwi.mono (T := fun k => S0 k ∨ N ≤ k) (fun _ h => h.elim)) (fun _ _ h => h))
                have qm := (hwi.blk HMB.out (fun h => h)).k2
                go_simp
                apply hK
                · rfl
                · conv => (lhs; whnf)
                · exact hwi
              simp only [put_lit, put_none]
              try dsimp only [List.set_cons_succ, List.set_cons_zero]
              apply Oblig.cons
              case h =>
                intro S w1 hwi hSi hd hcl
                apply StepOk.intro
                intro K hK
                obtain ⟨a1, a2, a3, hbz⟩ := HCL.out _ (HKJ.out.trans (hwi.mono (T := fun k => S0 k ∨ N ≤ k) (fun _ h => h.elim)) (fun _ _ h => h))
                have qm := (hwi.blk HMB.out (fun h => h)).k2
                go_simp
                apply hK
                · rfl
                · conv => (lhs; whnf)
                · exact hwi
              simp only [put_lit, put_none]
              try dsimp only [List.set_cons_succ, List.set_cons_zero]
              apply Oblig.cons
              case h =>
                intro S w1 hwi hSi hd hcl
                apply StepOk.intro
                intro K hK
                obtain ⟨a1, a2, a3, hbz⟩ := HCL.out _ (HKJ.out.trans (hwi.mono (T := fun k => S0 k ∨ N ≤ k) (fun _ h => h.elim)) (fun _ _ h => h))
                have qm := (hwi.blk HMB.out (fun h => h)).k2
                go_simp
                apply hK
                · rfl
                · conv => (lhs; whnf)
                · exact hwi
              simp only [put_lit, put_none]
              try dsimp only [List.set_cons_succ, List.set_cons_zero]
              apply Oblig.cons
              case h =>
                intro S w1 hwi hSi hd hcl
                apply StepOk.intro
                intro K hK
                obtain ⟨a1, a2, a3, hbz⟩ := HCL.out _ (HKJ.out.trans (hwi.mono (T := fun k => S0 k ∨ N ≤ k) (fun _ h => h.elim)) (fun _ _ h => h))
                have qm := (hwi.blk HMB.out (fun h => h)).k2
                go_simp
                apply hK
                · rfl
                · conv => (lhs; whnf)
                · exact hwi
              simp only [put_lit, put_none]
              try dsimp only [List.set_cons_succ, List.set_cons_zero]
              apply Oblig.cons
              case h =>
                intro S w1 hwi hSi hd hcl
                apply StepOk.intro
                intro K hK
                obtain ⟨a1, a2, a3, hbz⟩ := HCL.out _ (HKJ.out.trans (hwi.mono (T := fun k => S0 k ∨ N ≤ k) (fun _ h => h.elim)) (fun _ _ h => h))
                have qm := (hwi.blk HMB.out (fun h => h)).k2
                go_simp
                apply hK
                · rfl
                · conv => (lhs; whnf)
                · exact hwi
              simp only [put_lit, put_none]
              try dsimp only [List.set_cons_succ, List.set_cons_zero]
              apply Oblig.cons
              case h =>
                intro S w1 hwi hSi hd hcl
                apply StepOk.intro
                intro K hK
                obtain ⟨a1, a2, a3, hbz⟩ := HCL.out _ (HKJ.out.trans (hwi.mono (T := fun k => S0 k ∨ N ≤ k) (fun _ h => h.elim)) (fun _ _ h => h))
                have qm := (hwi.blk HMB.out (fun h => h)).k2
                go_simp
                apply hK
                · rfl
                · conv => (lhs; whnf)
                · exact hwi
              simp only [put_lit, put_none]
              try dsimp only [List.set_cons_succ, List.set_cons_zero]
              apply Oblig.cons
              case h =>
                intro S w1 hwi hSi hd hcl
                apply StepOk.intro
                intro K hK
                obtain ⟨a1, a2, a3, hbz⟩ := HCL.out _ (HKJ.out.trans (hwi.mono (T := fun k => S0 k ∨ N ≤ k) (fun _ h => h.elim)) (fun _ _ h => h))
                have qm := (hwi.blk HMB.out (fun h => h)).k2
                go_simp
                apply hK
                · rfl
                · conv => (lhs; whnf)
                · exact hwi
              simp only [put_lit, put_none]
              try dsimp only [List.set_cons_succ, List.set_cons_zero]
              apply Oblig.cons
              case h =>
                intro S w1 hwi hSi hd hcl
                apply StepOk.intro
                intro K hK
                obtain ⟨a1, a2, a3, hbz⟩ := HCL.out _ (HKJ.out.trans (hwi.mono (T := fun k => S0 k ∨ N ≤ k) (fun _ h => h.elim)) (fun _ _ h => h))
                have qm := (hwi.blk HMB.out (fun h => h)).k2
                go_simp
                apply hK
                · rfl
                · conv => (lhs; whnf)
                · exact hwi
              simp only [put_lit, put_none]
              try dsimp only [List.set_cons_succ, List.set_cons_zero]
              apply Oblig.cons
              case h =>
                intro S w1 hwi hSi hd hcl
                apply StepOk.intro
                intro K hK
                obtain ⟨a1, a2, a3, hbz⟩ := HCL.out _ (HKJ.out.trans (hwi.mono (T := fun k => S0 k ∨ N ≤ k) (fun _ h => h.elim)) (fun _ _ h => h))
                have qm := (hwi.blk HMB.out (fun h => h)).k2
                go_simp
                apply hK
                · rfl
                · conv => (lhs; whnf)
                · exact hwi
              simp only [put_lit, put_none]
              try dsimp only [List.set_cons_succ, List.set_cons_zero]
              apply Oblig.cons
              case h =>
                intro S w1 hwi hSi hd hcl
                apply StepOk.intro
                intro K hK
                obtain ⟨a1, a2, a3, hbz⟩ := HCL.out _ (HKJ.out.trans (hwi.mono (T := fun k => S0 k ∨ N ≤ k) (fun _ h => h.elim)) (fun _ _ h => h))
                have qm := (hwi.blk HMB.out (fun h => h)).k2
                go_simp
                apply hK
                · rfl
                · conv => (lhs; whnf)
                · exact hwi
              simp only [put_lit, put_none]
              try dsimp only [List.set_cons_succ, List.set_cons_zero]
              exact Oblig.nil
            case h0 =>
              exact (Keep.refl _ _).drew
            case hend =>
              intro S wx hwi hall
              have HKX := hid (HKJ.out.trans (hwi.mono (T := fun k => S0 k ∨ N ≤ k) (fun _ h => h.elim)) (fun _ _ h => h))
              have HSX := hid (hkeep _ _ _ _ HSJ.out hwi)
              obtain ⟨wy, rfl⟩ : ∃ wy : World, wy = wx := ⟨_, rfl⟩
              clear hwi hall
              go_wp2_with fail
              go_roundw
              case rel => exact ⟨j + 1, by omega, by go_num, by rw [HN.out, if_neg HNN.out]; exact HSX.out, HKX.out⟩
              case measure => simp [intOf]; omega
        · have hst := HSJ.out
          rw [List.take_of_length_le (by omega)] at hst
          have hpl : playF stp pk len l (most - n) n t' = (if (stp (pokeAll pk len n l t')).2 then ((stp (pokeAll pk len n l t')).1, n + 1, true) else playF stp pk len l (most - (n + 1)) (n + 1) (stp (pokeAll pk len n l t')).1) := by
            rw [show most - n = (most - (n + 1)) + 1 from by omega]; rfl
          have HP2 := hid hpl
          have HST := hid hst
          clear hpl hst
          cases hb2 : (stp (pokeAll pk len n l t')).2
          all_goals
            have HB2 := hid hb2
            clear hb2
            go_wp2_with fail
            refine (hstep n _ _ hlt HST.out).mono ?_
            rintro e w1 ⟨rfl, hs1, hk2⟩
            rw [HB2.out]
            have HS1 := hid hs1
            have HK1 := hid hk2
            clear hs1 hk2
            go_wp2_with fail
          · go_roundw
            case rel => exact ⟨n + 1, by omega, by go_num, _, HS1.out, by rw [← HPL.out, HP2.out, HB2.out]; rfl, (HK.out.trans HKJ.out (fun _ _ h => h)).trans HK1.out (fun _ _ h => h)⟩
            case measure => simp [intOf]; omega
          · have hfin : playF stp pk len l most 0 t = ((stp (pokeAll pk len n l t')).1, n + 1, true) := by rw [← HPL.out, HP2.out, HB2.out]; rfl
            have HF := hid hfin
            clear hfin
            go_ret2
            rw [HF.out]
            exact ⟨by go_num, ⟨_, HS1.out⟩, (HK.out.trans HKJ.out (fun _ _ h => h)).trans HK1.out (fun _ _ h => h)⟩
    · have hnm : n = most := by omega
      have hfin : playF stp pk len l most 0 t = (t', most, false) := by rw [← HPL.out, hnm, Nat.sub_self]; rfl
      have HF := hid hfin
      clear hfin hnm
      go_wp2_with fail
      go_ret2
      rw [HF.out]
      exact ⟨rfl, ⟨_, HS'.out⟩, HK.out⟩
end
end Go.Proofs.Ytlkniogapdhcpaa
