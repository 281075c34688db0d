/- breadlinelaw11: pokes. -/
import Derived.Test.YtjloccnbcgkmgaaLawClaim
import Derived.Test.YtjloccnbcgkmgaaPks
namespace Go.Proofs.Ytjloccnbcgkmgaa
open Go.RowKit
set_option linter.unusedVariables false
set_option linter.unusedSimpArgs false
set_option maxRecDepth 100000
/-- a poke, turned to one of a ticket's state -/
def fk11 (K q : Nat) (p : Pk) : Pk := ⟨p.at_, ((q + 2 * (p.w.tmod (K : Int)).natAbs : Nat) : Int), p.x⟩
structure WPk (w : World) (A1 : Option Addr) (j c1 : Nat) (PJ : List Pk) (pa pw px : Int) (cs : List Value) (S : Nat → Bool) (gh : Nat → Value) (wx : World) : Prop where
  keep : Keep0 w wx
  conf : Blk wx w.heap.size 24 cs
  row : S 16 = false → wx.ownsRow w.heap.size 81 3 (.slice A1 j c1) j (pksCells PJ)
  one : S 15 = true → S 16 = false → ∃ b1, gh 15 = .slice (some ⟨b1, 0, none⟩) 1 1 ∧ Blk wx b1 81 [i64 pa, i64 pw, i64 px]
  row7 : S 16 = true → ∃ A' c', gh 16 = .slice A' (j + 1) c' ∧ wx.ownsRow w.heap.size 81 3 (.slice A' (j + 1) c') (j + 1) (pksCells PJ ++ [i64 pa, i64 pw, i64 px])
  asg : S 17 = true → gh 17 = gh 16
section
variable {w wx : World} {A1 : Option Addr} {j c1 : Nat} {PJ : List Pk} {pa pw px : Int} {cs : List Value} {S : Nat → Bool} {gh : Nat → Value}
theorem WPk.fixed {i : Nat} (h : WPk w A1 j c1 PJ pa pw px cs S gh wx) (hi : i ≠ 15 ∧ i ≠ 16 ∧ i ≠ 17) : WPk w A1 j c1 PJ pa pw px cs (upd S i) gh wx := by
  have u15 : upd S i 15 = S 15 := by simp [upd, Ne.symm hi.1]
  have u16 : upd S i 16 = S 16 := by simp [upd, Ne.symm hi.2.1]
  have u17 : upd S i 17 = S 17 := by simp [upd, Ne.symm hi.2.2]
  exact ⟨h.keep, h.conf, by rw [u16]; exact h.row, by rw [u15, u16]; exact h.one, by rw [u16]; exact h.row7, by rw [u17]; exact h.asg⟩
theorem WPk.call {w2 : World} (h : WPk w A1 j c1 PJ pa pw px cs S gh wx) (hk : Keep0 wx w2) : WPk w A1 j c1 PJ pa pw px cs S gh w2 := by
  refine ⟨Keep0.step h.keep hk, hk.blk h.conf (fun h => h), fun h0 => ownsRow_keep (h.row h0) hk (fun _ _ h => h), fun h0 h1 => ?_, fun h0 => ?_, h.asg⟩
  · obtain ⟨b1, e, hb⟩ := h.one h0 h1
    exact ⟨b1, e, hk.blk hb (fun h => h)⟩
  · obtain ⟨A', c', e, ho⟩ := h.row7 h0
    exact ⟨A', c', e, ownsRow_keep ho hk (fun _ _ h => h)⟩
theorem WPk.built (h : WPk w A1 j c1 PJ pa pw px cs S gh wx) : WPk w A1 j c1 PJ pa pw px cs (upd S 15) (updv gh 15 (.slice (some ⟨wx.heap.size, 0, none⟩) 1 1)) (wx.alloc (.cells #[i64 pa, i64 pw, i64 px] 81)) := by
  have u16 : upd S 15 16 = S 16 := by simp [upd]
  have v16 : updv gh 15 (.slice (some ⟨wx.heap.size, 0, none⟩) 1 1) 16 = gh 16 := by simp [updv]
  have u17 : upd S 15 17 = S 17 := by simp [upd]
  have v17 : updv gh 15 (.slice (some ⟨wx.heap.size, 0, none⟩) 1 1) 17 = gh 17 := by simp [updv]
  have hc := h.call ((Keep.refl (fun _ => False) wx).alloc (.cells #[i64 pa, i64 pw, i64 px] 81))
  refine ⟨hc.keep, hc.conf, by rw [u16]; exact hc.row, fun _ _ => ⟨wx.heap.size, by simp [updv], Blk.made rfl rfl⟩, by rw [u16, v16]; exact hc.row7, by rw [u17, v16, v17]; exact hc.asg⟩
theorem WPk.app (h : WPk w A1 j c1 PJ pa pw px cs S gh wx) (h16 : S 16 = false) (h17 : S 17 = true → S 16 = true) {A3 : Option Addr} {c3 : Nat} {w3 : World} (ho : w3.ownsRow w.heap.size 81 3 (.slice A3 (j + 1) c3) (j + 1) (pksCells PJ ++ [i64 pa, i64 pw, i64 px]))
    (hg : wx.grownBy w3 (Value.slice A1 j c1).ownBlock) : WPk w A1 j c1 PJ pa pw px cs (upd S 16) (updv gh 16 (.slice A3 (j + 1) c3)) w3 := by
  have hr := h.row h16
  have u16 : upd S 16 16 = true := by simp [upd]
  refine ⟨Keep.grown h.keep hg (fun k hk e => by have := (hr.lt k e).1; omega), grown_blk hg h.conf (ownBlock_ne hr h.conf (by decide)), by rw [u16]; exact fun h => (by cases h), by rw [u16]; exact fun _ h => (by cases h), fun _ => ⟨A3, c3, by rw [updv_same], ho⟩, fun h0 => ?_⟩
  have u17 : upd S 16 17 = S 17 := by simp [upd]
  rw [u17] at h0
  have := h17 h0
  rw [h16] at this
  cases this
theorem WPk.asgn (h : WPk w A1 j c1 PJ pa pw px cs S gh wx) : WPk w A1 j c1 PJ pa pw px cs (upd S 17) (updv gh 17 (gh 16)) wx := by
  have u15 : upd S 17 15 = S 15 := by simp [upd]
  have u16 : upd S 17 16 = S 16 := by simp [upd]
  have v15 : updv gh 17 (gh 16) 15 = gh 15 := by simp [updv]
  have v16 : updv gh 17 (gh 16) 16 = gh 16 := by simp [updv]
  exact ⟨h.keep, h.conf, by rw [u16]; exact h.row, by rw [u15, u16, v15]; exact h.one, by rw [u16, v16]; exact h.row7, fun _ => by rw [updv_same, v16]⟩
end
set_option maxHeartbeats 4000000 in
theorem law11_pokes (t s g l r : Int) (K q : Nat) (PA : Option Addr) (pn pc : Nat) (LA : Option Addr) (ln lc : Nat) (KA : Option Addr) (KK : List Pk) (kc : Nat) (w : World) (hK : pksAt w KA KK) (hk40 : KK.length ≤ 40) (h1 : 1 ≤ K ∧ K ≤ 16) (hs : 1 ≤ s ∧ s ≤ 8) (hp : pn ≤ 12) (hq : (q : Int) = pn * (6 + 2 * s)) :
    Calls Try.prog 23 #[.agg #[i64 t, i64 s, i64 g, i64 l, i64 r, i64 (K : Int), .slice PA pn pc, .slice LA ln lc], .slice KA KK.length kc] w fun e w' => ∃ A c', e = .returned (.slice A KK.length c') ∧ pksAt w' A (KK.map (fk11 K q)) ∧ Keep0 w w' ∧ (∀ b o, A = some ⟨b, o, none⟩ → w.heap.size ≤ b) := by
  obtain ⟨i0, hti, hz0, hz1, hz2⟩ := info_parts info_poke
  have HI := hid hti
  clear hti
  have HK1 : Hid (Keep0 w (w.alloc (.cells #[i64 t, i64 s, i64 g, i64 l, i64 r, i64 (K : Int), .slice PA pn pc, .slice LA ln lc] 24))) := hid ((Keep.refl _ _).alloc _)
  have HB1 : Hid (Blk (w.alloc (.cells #[i64 t, i64 s, i64 g, i64 l, i64 r, i64 (K : Int), .slice PA pn pc, .slice LA ln lc] 24)) w.heap.size 24 [i64 t, i64 s, i64 g, i64 l, i64 r, i64 (K : Int), .slice PA pn pc, .slice LA ln lc]) := hid (Blk.made rfl rfl)
  have HKK := hid hK
  have HQ := hid hq
  clear hK hq
  go_enter Try.func23, Try.ntmps23
  go_wp2_with fail
  go_loopw [5, 6] (fun v5 v6 wr => ∃ j : Nat, j ≤ KK.length ∧ v6 = .int .i64 j ∧ ∃ A1 c1, v5 = .slice A1 j c1 ∧ wr.ownsRow w.heap.size 81 3 (.slice A1 j c1) j (pksCells ((KK.take j).map (fk11 K q))) ∧ Blk wr w.heap.size 24 [i64 t, i64 s, i64 g, i64 l, i64 r, i64 (K : Int), .slice PA pn pc, .slice LA ln lc] ∧ Keep0 w wr) (fun _ v _ => KK.length - (intOf v).toNat)
  case atStart => exact ⟨0, Nat.zero_le _, rfl, none, 0, rfl, by simpa [pksCells] using World.ownsRow_nil _ _ _ _, HB1.out, HK1.out⟩
  case round =>
    obtain ⟨j, hj, rfl, A1, c1, rfl, ho, hb, hkr⟩ := hrel
    clear HB1 HK1
    have HO := hid ho
    have HBB := hid hb
    have HKR := hid hkr
    have qb := hb.k8
    clear ho hb hkr
    by_cases hjl : j < KK.length
    · obtain ⟨kb, ko, rfl, hkc⟩ := HKK.out.cell (by omega)
      obtain ⟨d1, d2, d3⟩ := hkc j hjl
      have hkz := World.block_lt_of_cell? _ _ d1
      simp only at hkz
      obtain ⟨pa, pw, px, hpk⟩ : ∃ pa pw px, KK[j] = Pk.mk pa pw px := ⟨_, _, _, rfl⟩
      have hsn : pksCells ((KK.take (j + 1)).map (fk11 K q)) = pksCells ((KK.take j).map (fk11 K q)) ++ [i64 pa, i64 ((q + 2 * (pw.tmod (K : Int)).natAbs : Nat) : Int), i64 px] := by rw [List.take_succ_eq_append_getElem hjl, List.map_append, hpk]; exact pksCells_snoc _ _
      rw [hpk] at d1 d2 d3
      simp only at d1 d2 d3
      have D1 := hid d1
      have D3 := hid d3
      have hkzs := lts hkz
      have d2r := (cell_old HKR.out hkz (fun h => h) _).trans d2
      have htm : (pw.tmod (K : Int)).natAbs < K := by
        have h3 := Int.natAbs_tmod pw (K : Int)
        rw [h3]
        exact Nat.mod_lt _ (by omega)
      have HSN := hid hsn
      clear hkc hpk hsn d1 d2 d3
      generalize hE : (pw.tmod (K : Int)).natAbs = e at *
      have HTK := hid (fun (w' : World) => ref_Ticket t s g l r (K : Int) PA pn pc LA ln lc (e : Int) w' hs.1 hs.2 (by omega) (by omega) (by omega))
      rw [← HQ.out, show (q : Int) + 2 * (e : Int) = ((q + 2 * e : Nat) : Int) by push_cast; rfl] at HTK
      generalize q + 2 * e = p at *
      have y0 : ¬ K = 0 := by omega
      generalize (KK.take j).map (fk11 K q) = PJ at *
      have y2 : IntKind.i64.wrap (e : Int) = (e : Int) := IntWalk.i64_in _ (by omega)
      by_cases hng : pw.tmod (K : Int) < 0
      · have hE2 : pw.tmod (K : Int) = -(e : Int) := by omega
        have g1 : decide (-(e : Int) < 0) = true := decide_eq_true (by omega)
        have g2 : -(e : Int) < 0 := by omega
        have y1 : IntKind.i64.wrap (-(-(e : Int))) = (e : Int) := by rw [Int.neg_neg]; exact y2
        clear hng hE
        go_wp2_with fail
        go_quiet (fail)
        go_wp2_with fail
        clear d2r hE2 g1 g2 y1
        apply wp_region_free (WI := WPk w A1 j c1 PJ pa (p : Int) px [i64 t, i64 s, i64 g, i64 l, i64 r, i64 (K : Int), .slice PA pn pc, .slice LA ln lc]) (by kernel_rfl) (by kernel_rfl)
        case hob =>
          apply ObligF.fixed
          case h =>
            intro S gh w1 hwi hSi hd hcl
            apply StepOk.intro
            intro K hK
            have qc := hwi.conf.k8
            have d1 := (cell_old hwi.keep hkz (fun h => h) _).trans D1.out
            have d3 := (cell_old hwi.keep hkz (fun h => h) _).trans D3.out
            go_simp
            apply hK
            · rfl
            · conv => (lhs; whnf)
            · exact hwi.fixed (by decide)
          simp only [put_lit, put_none]
          try dsimp only [List.set_cons_succ, List.set_cons_zero]
          apply ObligF.fixed
          case h =>
            intro S gh w1 hwi hSi hd hcl
            apply StepOk.intro
            intro K hK
            have qc := hwi.conf.k8
            have d1 := (cell_old hwi.keep hkz (fun h => h) _).trans D1.out
            have d3 := (cell_old hwi.keep hkz (fun h => h) _).trans D3.out
            go_simp
            apply hK
            · rfl
            · conv => (lhs; whnf)
            · exact hwi.fixed (by decide)
          simp only [put_lit, put_none]
          try dsimp only [List.set_cons_succ, List.set_cons_zero]
          apply ObligF.fixed
          case h =>
            intro S gh w1 hwi hSi hd hcl
            apply StepOk.intro
            intro K hK
            have qc := hwi.conf.k8
            have d1 := (cell_old hwi.keep hkz (fun h => h) _).trans D1.out
            have d3 := (cell_old hwi.keep hkz (fun h => h) _).trans D3.out
            go_simp
            apply hK
            · rfl
            · conv => (lhs; whnf)
            · exact hwi.fixed (by decide)
          simp only [put_lit, put_none]
          try dsimp only [List.set_cons_succ, List.set_cons_zero]
          apply ObligF.fixed
          case h =>
            intro S gh w1 hwi hSi hd hcl
            apply StepOk.intro
            intro K hK
            have qc := hwi.conf.k8
            have d1 := (cell_old hwi.keep hkz (fun h => h) _).trans D1.out
            have d3 := (cell_old hwi.keep hkz (fun h => h) _).trans D3.out
            go_simp
            apply hK
            · rfl
            · conv => (lhs; whnf)
            · exact hwi.fixed (by decide)
          simp only [put_lit, put_none]
          try dsimp only [List.set_cons_succ, List.set_cons_zero]
          apply ObligF.fixed
          case h =>
            intro S gh w1 hwi hSi hd hcl
            apply StepOk.intro
            intro K hK
            have qc := hwi.conf.k8
            have d1 := (cell_old hwi.keep hkz (fun h => h) _).trans D1.out
            have d3 := (cell_old hwi.keep hkz (fun h => h) _).trans D3.out
            go_simp
            apply hK
            · rfl
            · conv => (lhs; whnf)
            · exact hwi.fixed (by decide)
          simp only [put_lit, put_none]
          try dsimp only [List.set_cons_succ, List.set_cons_zero]
          apply ObligF.fixed
          case h =>
            intro S gh w1 hwi hSi hd hcl
            apply StepOk.intro
            intro K hK
            have qc := hwi.conf.k8
            have d1 := (cell_old hwi.keep hkz (fun h => h) _).trans D1.out
            have d3 := (cell_old hwi.keep hkz (fun h => h) _).trans D3.out
            go_simp
            apply hK
            · rfl
            · conv => (lhs; whnf)
            · exact hwi.fixed (by decide)
          simp only [put_lit, put_none]
          try dsimp only [List.set_cons_succ, List.set_cons_zero]
          apply ObligF.fixed
          case h =>
            intro S gh w1 hwi hSi hd hcl
            apply StepOk.intro
            intro K hK
            have qc := hwi.conf.k8
            have d1 := (cell_old hwi.keep hkz (fun h => h) _).trans D1.out
            have d3 := (cell_old hwi.keep hkz (fun h => h) _).trans D3.out
            go_simp
            apply hK
            · rfl
            · conv => (lhs; whnf)
            · exact hwi.fixed (by decide)
          simp only [put_lit, put_none]
          try dsimp only [List.set_cons_succ, List.set_cons_zero]
          apply ObligF.fixed
          case h =>
            intro S gh w1 hwi hSi hd hcl
            apply StepOk.intro
            intro K hK
            have qc := hwi.conf.k8
            have d1 := (cell_old hwi.keep hkz (fun h => h) _).trans D1.out
            have d3 := (cell_old hwi.keep hkz (fun h => h) _).trans D3.out
            go_simp
            apply hK
            · rfl
            · conv => (lhs; whnf)
            · exact hwi.fixed (by decide)
          simp only [put_lit, put_none]
          try dsimp only [List.set_cons_succ, List.set_cons_zero]
          apply ObligF.fixed
          case h =>
            intro S gh w1 hwi hSi hd hcl
            apply StepOk.intro
            intro K hK
            have qc := hwi.conf.k8
            have d1 := (cell_old hwi.keep hkz (fun h => h) _).trans D1.out
            have d3 := (cell_old hwi.keep hkz (fun h => h) _).trans D3.out
            go_simp
            refine (HTK.out _).mono ?_
            rintro e w2 ⟨rfl, hk⟩
            apply hK
            · rfl
            · conv => (lhs; whnf)
            · exact (hwi.call hk).fixed (by decide)
          simp only [put_lit, put_none]
          try dsimp only [List.set_cons_succ, List.set_cons_zero]
          apply ObligF.fixed
          case h =>
            intro S gh w1 hwi hSi hd hcl
            apply StepOk.intro
            intro K hK
            have qc := hwi.conf.k8
            have d1 := (cell_old hwi.keep hkz (fun h => h) _).trans D1.out
            have d3 := (cell_old hwi.keep hkz (fun h => h) _).trans D3.out
            go_simp
            apply hK
            · rfl
            · conv => (lhs; whnf)
            · exact hwi.fixed (by decide)
          simp only [put_lit, put_none]
          try dsimp only [List.set_cons_succ, List.set_cons_zero]
          apply ObligF.fixed
          case h =>
            intro S gh w1 hwi hSi hd hcl
            apply StepOk.intro
            intro K hK
            have qc := hwi.conf.k8
            have d1 := (cell_old hwi.keep hkz (fun h => h) _).trans D1.out
            have d3 := (cell_old hwi.keep hkz (fun h => h) _).trans D3.out
            go_simp
            apply hK
            · rfl
            · conv => (lhs; whnf)
            · exact hwi.fixed (by decide)
          simp only [put_lit, put_none]
          try dsimp only [List.set_cons_succ, List.set_cons_zero]
          apply ObligF.fixed
          case h =>
            intro S gh w1 hwi hSi hd hcl
            apply StepOk.intro
            intro K hK
            have qc := hwi.conf.k8
            have d1 := (cell_old hwi.keep hkz (fun h => h) _).trans D1.out
            have d3 := (cell_old hwi.keep hkz (fun h => h) _).trans D3.out
            go_simp
            apply hK
            · rfl
            · conv => (lhs; whnf)
            · exact hwi.fixed (by decide)
          simp only [put_lit, put_none]
          try dsimp only [List.set_cons_succ, List.set_cons_zero]
          apply ObligF.fixed
          case h =>
            intro S gh w1 hwi hSi hd hcl
            apply StepOk.intro
            intro K hK
            have qc := hwi.conf.k8
            have d1 := (cell_old hwi.keep hkz (fun h => h) _).trans D1.out
            have d3 := (cell_old hwi.keep hkz (fun h => h) _).trans D3.out
            go_simp
            apply hK
            · rfl
            · conv => (lhs; whnf)
            · exact hwi.fixed (by decide)
          simp only [put_lit, put_none]
          try dsimp only [List.set_cons_succ, List.set_cons_zero]
          apply ObligF.fixed
          case h =>
            intro S gh w1 hwi hSi hd hcl
            apply StepOk.intro
            intro K hK
            have qc := hwi.conf.k8
            have d1 := (cell_old hwi.keep hkz (fun h => h) _).trans D1.out
            have d3 := (cell_old hwi.keep hkz (fun h => h) _).trans D3.out
            go_simp
            apply hK
            · rfl
            · conv => (lhs; whnf)
            · exact hwi.fixed (by decide)
          simp only [put_lit, put_none]
          try dsimp only [List.set_cons_succ, List.set_cons_zero]
          apply ObligF.fixed
          case h =>
            intro S gh w1 hwi hSi hd hcl
            apply StepOk.intro
            intro K hK
            have qc := hwi.conf.k8
            have d1 := (cell_old hwi.keep hkz (fun h => h) _).trans D1.out
            have d3 := (cell_old hwi.keep hkz (fun h => h) _).trans D3.out
            go_simp
            apply hK
            · rfl
            · conv => (lhs; whnf)
            · exact hwi.fixed (by decide)
          simp only [put_lit, put_none]
          try dsimp only [List.set_cons_succ, List.set_cons_zero]
          apply ObligF.free
          case h =>
            intro S gh w1 hwi hSi hd hcl
            apply StepG.intro
            intro K hK
            have qc := hwi.conf.k8
            have d1 := (cell_old hwi.keep hkz (fun h => h) _).trans D1.out
            have d3 := (cell_old hwi.keep hkz (fun h => h) _).trans D3.out
            go_simp
            apply hK
            · rfl
            · exact hwi.built
          simp only [put_lit, put_none]
          try dsimp only [List.set_cons_succ, List.set_cons_zero]
          apply ObligF.free
          case h =>
            intro S gh w1 hwi hSi hd hcl
            apply StepG.intro
            intro K hK
            obtain ⟨b1, e1, hb1⟩ := hwi.one (hd ⟨15, .data⟩ (by simp) rfl) hSi
            rw [e1]
            (refine step_append_own ?a1 (.tmp 26) (.tmp 41) 49 ?a2 (w.heap.size) 81 i0 ?z 3 24 ?a3 ?a4 ?a5 ?a6 ?a7 ?a8 ?a9 (.slice A1 j c1) (j) (pksCells PJ) ?a10 ?hown (⟨b1, 0, none⟩) (1) (1) ([i64 pa, i64 (p : Int), i64 px]) ?a11 ?a12 ?hnews ?hone ?h63 ?hby ?hbase ?_; (case a1 => rfl); (case a2 => rfl); (case a3 => exact Try.underlying49); (case a4 => exact HI.out); (case a5 => exact hz0); (case a6 => exact hz1); (case a7 => exact hz2); (case a8 => rfl); (case a9 => decide); (case a10 => rfl); (case a11 => rfl); (case a12 => rfl); (case hown => exact hwi.row hSi); (case h63 => unfold maxLen; omega); (case hby => omega); (case hnews => exact news_at hb1); (case hone => simp [Value.oneCell']); (case hbase => have := hwi.keep.size; omega); intro A3 c3 w3 hown3 hg3 hsl3; apply hK; rfl; exact hwi.app hSi (fun h => (hcl 17 _ rfl h) ⟨16, .data⟩ (by simp) rfl) hown3 hg3)
          simp only [put_lit, put_none]
          try dsimp only [List.set_cons_succ, List.set_cons_zero]
          apply ObligF.free
          case h =>
            intro S gh w1 hwi hSi hd hcl
            apply StepG.intro
            intro K hK
            have qc := hwi.conf.k8
            have d1 := (cell_old hwi.keep hkz (fun h => h) _).trans D1.out
            have d3 := (cell_old hwi.keep hkz (fun h => h) _).trans D3.out
            go_simp
            apply hK
            · rfl
            · exact hwi.asgn
          simp only [put_lit, put_none]
          try dsimp only [List.set_cons_succ, List.set_cons_zero]
          exact ObligF.nil
        case h0 =>
          exact ⟨(HKR.out.drewN _).drew, (HBB.out.drewN _).drew, fun _ => ownsRow_keep (S := fun _ => False) HO.out (((Keep.refl _ _).drewN _).drew) (fun _ _ h => h), fun h => (by cases h), fun h => (by cases h), fun h => (by cases h)⟩
        case hend =>
          intro S gh wx hwi hall
          obtain ⟨A3, c3, e3, ho3⟩ := hwi.row7 (hall 16 (by decide))
          have ha17 := hwi.asg (hall 17 (by decide))
          rw [e3] at ha17
          have hcf := hwi.conf
          have hkk := hwi.keep
          clear hwi hall
          go_wp2_with fail
          go_roundw
          case rel => exact ⟨j + 1, by omega, by go_num, A3, c3, ha17, by rw [HSN.out]; exact ho3, hcf, hkk⟩
          case measure => simp [intOf]; omega
      · have hE2 : pw.tmod (K : Int) = (e : Int) := by omega
        have g1 : decide ((e : Int) < 0) = false := decide_eq_false (by omega)
        clear hng hE
        go_wp2_with fail
        go_quiet (fail)
        go_wp2_with fail
        clear d2r hE2 g1
        apply wp_region_free (WI := WPk w A1 j c1 PJ pa (p : Int) px [i64 t, i64 s, i64 g, i64 l, i64 r, i64 (K : Int), .slice PA pn pc, .slice LA ln lc]) (by kernel_rfl) (by kernel_rfl)
        case hob =>
          apply ObligF.fixed
          case h =>
            intro S gh w1 hwi hSi hd hcl
            apply StepOk.intro
            intro K hK
            have qc := hwi.conf.k8
            have d1 := (cell_old hwi.keep hkz (fun h => h) _).trans D1.out
            have d3 := (cell_old hwi.keep hkz (fun h => h) _).trans D3.out
            go_simp
            apply hK
            · rfl
            · conv => (lhs; whnf)
            · exact hwi.fixed (by decide)
          simp only [put_lit, put_none]
          try dsimp only [List.set_cons_succ, List.set_cons_zero]
          apply ObligF.fixed
          case h =>
            intro S gh w1 hwi hSi hd hcl
            apply StepOk.intro
            intro K hK
            have qc := hwi.conf.k8
            have d1 := (cell_old hwi.keep hkz (fun h => h) _).trans D1.out
            have d3 := (cell_old hwi.keep hkz (fun h => h) _).trans D3.out
            go_simp
            apply hK
            · rfl
            · conv => (lhs; whnf)
            · exact hwi.fixed (by decide)
          simp only [put_lit, put_none]
          try dsimp only [List.set_cons_succ, List.set_cons_zero]
          apply ObligF.fixed
          case h =>
            intro S gh w1 hwi hSi hd hcl
            apply StepOk.intro
            intro K hK
            have qc := hwi.conf.k8
            have d1 := (cell_old hwi.keep hkz (fun h => h) _).trans D1.out
            have d3 := (cell_old hwi.keep hkz (fun h => h) _).trans D3.out
            go_simp
            apply hK
            · rfl
            · conv => (lhs; whnf)
            · exact hwi.fixed (by decide)
          simp only [put_lit, put_none]
          try dsimp only [List.set_cons_succ, List.set_cons_zero]
          apply ObligF.fixed
          case h =>
            intro S gh w1 hwi hSi hd hcl
            apply StepOk.intro
            intro K hK
            have qc := hwi.conf.k8
            have d1 := (cell_old hwi.keep hkz (fun h => h) _).trans D1.out
            have d3 := (cell_old hwi.keep hkz (fun h => h) _).trans D3.out
            go_simp
            apply hK
            · rfl
            · conv => (lhs; whnf)
            · exact hwi.fixed (by decide)
          simp only [put_lit, put_none]
          try dsimp only [List.set_cons_succ, List.set_cons_zero]
          apply ObligF.fixed
          case h =>
            intro S gh w1 hwi hSi hd hcl
            apply StepOk.intro
            intro K hK
            have qc := hwi.conf.k8
            have d1 := (cell_old hwi.keep hkz (fun h => h) _).trans D1.out
            have d3 := (cell_old hwi.keep hkz (fun h => h) _).trans D3.out
            go_simp
            apply hK
            · rfl
            · conv => (lhs; whnf)
            · exact hwi.fixed (by decide)
          simp only [put_lit, put_none]
          try dsimp only [List.set_cons_succ, List.set_cons_zero]
          apply ObligF.fixed
          case h =>
            intro S gh w1 hwi hSi hd hcl
            apply StepOk.intro
            intro K hK
            have qc := hwi.conf.k8
            have d1 := (cell_old hwi.keep hkz (fun h => h) _).trans D1.out
            have d3 := (cell_old hwi.keep hkz (fun h => h) _).trans D3.out
            go_simp
            apply hK
            · rfl
            · conv => (lhs; whnf)
            · exact hwi.fixed (by decide)
          simp only [put_lit, put_none]
          try dsimp only [List.set_cons_succ, List.set_cons_zero]
          apply ObligF.fixed
          case h =>
            intro S gh w1 hwi hSi hd hcl
            apply StepOk.intro
            intro K hK
            have qc := hwi.conf.k8
            have d1 := (cell_old hwi.keep hkz (fun h => h) _).trans D1.out
            have d3 := (cell_old hwi.keep hkz (fun h => h) _).trans D3.out
            go_simp
            apply hK
            · rfl
            · conv => (lhs; whnf)
            · exact hwi.fixed (by decide)
          simp only [put_lit, put_none]
          try dsimp only [List.set_cons_succ, List.set_cons_zero]
          apply ObligF.fixed
          case h =>
            intro S gh w1 hwi hSi hd hcl
            apply StepOk.intro
            intro K hK
            have qc := hwi.conf.k8
            have d1 := (cell_old hwi.keep hkz (fun h => h) _).trans D1.out
            have d3 := (cell_old hwi.keep hkz (fun h => h) _).trans D3.out
            go_simp
            apply hK
            · rfl
            · conv => (lhs; whnf)
            · exact hwi.fixed (by decide)
          simp only [put_lit, put_none]
          try dsimp only [List.set_cons_succ, List.set_cons_zero]
          apply ObligF.fixed
          case h =>
            intro S gh w1 hwi hSi hd hcl
            apply StepOk.intro
            intro K hK
            have qc := hwi.conf.k8
            have d1 := (cell_old hwi.keep hkz (fun h => h) _).trans D1.out
            have d3 := (cell_old hwi.keep hkz (fun h => h) _).trans D3.out
            go_simp
            refine (HTK.out _).mono ?_
            rintro e w2 ⟨rfl, hk⟩
            apply hK
            · rfl
            · conv => (lhs; whnf)
            · exact (hwi.call hk).fixed (by decide)
          simp only [put_lit, put_none]
          try dsimp only [List.set_cons_succ, List.set_cons_zero]
          apply ObligF.fixed
          case h =>
            intro S gh w1 hwi hSi hd hcl
            apply StepOk.intro
            intro K hK
            have qc := hwi.conf.k8
            have d1 := (cell_old hwi.keep hkz (fun h => h) _).trans D1.out
            have d3 := (cell_old hwi.keep hkz (fun h => h) _).trans D3.out
            go_simp
            apply hK
            · rfl
            · conv => (lhs; whnf)
            · exact hwi.fixed (by decide)
          simp only [put_lit, put_none]
          try dsimp only [List.set_cons_succ, List.set_cons_zero]
          apply ObligF.fixed
          case h =>
            intro S gh w1 hwi hSi hd hcl
            apply StepOk.intro
            intro K hK
            have qc := hwi.conf.k8
            have d1 := (cell_old hwi.keep hkz (fun h => h) _).trans D1.out
            have d3 := (cell_old hwi.keep hkz (fun h => h) _).trans D3.out
            go_simp
            apply hK
            · rfl
            · conv => (lhs; whnf)
            · exact hwi.fixed (by decide)
          simp only [put_lit, put_none]
          try dsimp only [List.set_cons_succ, List.set_cons_zero]
          apply ObligF.fixed
          case h =>
            intro S gh w1 hwi hSi hd hcl
            apply StepOk.intro
            intro K hK
            have qc := hwi.conf.k8
            have d1 := (cell_old hwi.keep hkz (fun h => h) _).trans D1.out
            have d3 := (cell_old hwi.keep hkz (fun h => h) _).trans D3.out
            go_simp
            apply hK
            · rfl
            · conv => (lhs; whnf)
            · exact hwi.fixed (by decide)
          simp only [put_lit, put_none]
          try dsimp only [List.set_cons_succ, List.set_cons_zero]
          apply ObligF.fixed
          case h =>
            intro S gh w1 hwi hSi hd hcl
            apply StepOk.intro
            intro K hK
            have qc := hwi.conf.k8
            have d1 := (cell_old hwi.keep hkz (fun h => h) _).trans D1.out
            have d3 := (cell_old hwi.keep hkz (fun h => h) _).trans D3.out
            go_simp
            apply hK
            · rfl
            · conv => (lhs; whnf)
            · exact hwi.fixed (by decide)
          simp only [put_lit, put_none]
          try dsimp only [List.set_cons_succ, List.set_cons_zero]
          apply ObligF.fixed
          case h =>
            intro S gh w1 hwi hSi hd hcl
            apply StepOk.intro
            intro K hK
            have qc := hwi.conf.k8
            have d1 := (cell_old hwi.keep hkz (fun h => h) _).trans D1.out
            have d3 := (cell_old hwi.keep hkz (fun h => h) _).trans D3.out
            go_simp
            apply hK
            · rfl
            · conv => (lhs; whnf)
            · exact hwi.fixed (by decide)
          simp only [put_lit, put_none]
          try dsimp only [List.set_cons_succ, List.set_cons_zero]
          apply ObligF.fixed
          case h =>
            intro S gh w1 hwi hSi hd hcl
            apply StepOk.intro
            intro K hK
            have qc := hwi.conf.k8
            have d1 := (cell_old hwi.keep hkz (fun h => h) _).trans D1.out
            have d3 := (cell_old hwi.keep hkz (fun h => h) _).trans D3.out
            go_simp
            apply hK
            · rfl
            · conv => (lhs; whnf)
            · exact hwi.fixed (by decide)
          simp only [put_lit, put_none]
          try dsimp only [List.set_cons_succ, List.set_cons_zero]
          apply ObligF.free
          case h =>
            intro S gh w1 hwi hSi hd hcl
            apply StepG.intro
            intro K hK
            have qc := hwi.conf.k8
            have d1 := (cell_old hwi.keep hkz (fun h => h) _).trans D1.out
            have d3 := (cell_old hwi.keep hkz (fun h => h) _).trans D3.out
            go_simp
            apply hK
            · rfl
            · exact hwi.built
          simp only [put_lit, put_none]
          try dsimp only [List.set_cons_succ, List.set_cons_zero]
          apply ObligF.free
          case h =>
            intro S gh w1 hwi hSi hd hcl
            apply StepG.intro
            intro K hK
            obtain ⟨b1, e1, hb1⟩ := hwi.one (hd ⟨15, .data⟩ (by simp) rfl) hSi
            rw [e1]
            (refine step_append_own ?a1 (.tmp 26) (.tmp 41) 49 ?a2 (w.heap.size) 81 i0 ?z 3 24 ?a3 ?a4 ?a5 ?a6 ?a7 ?a8 ?a9 (.slice A1 j c1) (j) (pksCells PJ) ?a10 ?hown (⟨b1, 0, none⟩) (1) (1) ([i64 pa, i64 (p : Int), i64 px]) ?a11 ?a12 ?hnews ?hone ?h63 ?hby ?hbase ?_; (case a1 => rfl); (case a2 => rfl); (case a3 => exact Try.underlying49); (case a4 => exact HI.out); (case a5 => exact hz0); (case a6 => exact hz1); (case a7 => exact hz2); (case a8 => rfl); (case a9 => decide); (case a10 => rfl); (case a11 => rfl); (case a12 => rfl); (case hown => exact hwi.row hSi); (case h63 => unfold maxLen; omega); (case hby => omega); (case hnews => exact news_at hb1); (case hone => simp [Value.oneCell']); (case hbase => have := hwi.keep.size; omega); intro A3 c3 w3 hown3 hg3 hsl3; apply hK; rfl; exact hwi.app hSi (fun h => (hcl 17 _ rfl h) ⟨16, .data⟩ (by simp) rfl) hown3 hg3)
          simp only [put_lit, put_none]
          try dsimp only [List.set_cons_succ, List.set_cons_zero]
          apply ObligF.free
          case h =>
            intro S gh w1 hwi hSi hd hcl
            apply StepG.intro
            intro K hK
            have qc := hwi.conf.k8
            have d1 := (cell_old hwi.keep hkz (fun h => h) _).trans D1.out
            have d3 := (cell_old hwi.keep hkz (fun h => h) _).trans D3.out
            go_simp
            apply hK
            · rfl
            · exact hwi.asgn
          simp only [put_lit, put_none]
          try dsimp only [List.set_cons_succ, List.set_cons_zero]
          exact ObligF.nil
        case h0 =>
          exact ⟨(HKR.out.drewN _).drew, (HBB.out.drewN _).drew, fun _ => ownsRow_keep (S := fun _ => False) HO.out (((Keep.refl _ _).drewN _).drew) (fun _ _ h => h), fun h => (by cases h), fun h => (by cases h), fun h => (by cases h)⟩
        case hend =>
          intro S gh wx hwi hall
          obtain ⟨A3, c3, e3, ho3⟩ := hwi.row7 (hall 16 (by decide))
          have ha17 := hwi.asg (hall 17 (by decide))
          rw [e3] at ha17
          have hcf := hwi.conf
          have hkk := hwi.keep
          clear hwi hall
          go_wp2_with fail
          go_roundw
          case rel => exact ⟨j + 1, by omega, by go_num, A3, c3, ha17, by rw [HSN.out]; exact ho3, hcf, hkk⟩
          case measure => simp [intOf]; omega
    · obtain rfl : KK.length = j := by omega
      have ho := HO.out
      rw [List.take_of_length_le (Nat.le_refl _)] at ho
      have HP := hid (pks_of_row ho (by simp))
      have HLT := hid (fun b o (e : A1 = some ⟨b, o, none⟩) => (ho.lt b (by rw [e]; rfl)).1)
      clear ho
      go_wp2_with fail
      go_ret
      exact ⟨A1, c1, rfl, HP.out, HKR.out, HLT.out⟩
end Go.Proofs.Ytjloccnbcgkmgaa
