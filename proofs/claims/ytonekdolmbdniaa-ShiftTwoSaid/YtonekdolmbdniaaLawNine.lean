/- breadlinelaw09: kind, words, added. -/
import Derived.Test.YtonekdolmbdniaaShiftT
import Derived.Test.YtonekdolmbdniaaRefFive
import Derived.Test.YtonekdolmbdniaaLawEightB
namespace Go.Proofs.Ytonekdolmbdniaa
open Go.RowKit
set_option linter.unusedVariables false
set_option linter.unusedSimpArgs false
set_option maxRecDepth 100000

set_option maxHeartbeats 1000000 in
theorem law9_kind (t s g l r k : Int) (PA : Option Addr) (pn pc : Nat) (LA : Option Addr) (ln lc : Nat) (v n what : Int) (kd : Nat) (w : World) (hw : 0 ≤ what ∧ what ≤ 255) (hkd : what % 3 = kd) (hs0 : 1 ≤ s) (hs1 : s ≤ 8) (h0 : 0 ≤ v) (h1 : v ≤ 1000) :
    Calls Try.prog 14 #[.agg #[i64 t, i64 s, i64 g, i64 l, i64 r, i64 k, .slice PA pn pc, .slice LA ln lc], .int .u8 what, i64 v, i64 n] w (Made kd s v n w) := by
  have hk3 : kd = 0 ∨ kd = 1 ∨ kd = 2 := by omega
  have y1 : what.tmod 3 = kd := by rw [Int.tmod_eq_emod_of_nonneg hw.1]; exact hkd
  have HB : Hid (Blk (w.alloc (.cells #[i64 t, i64 s, i64 g, i64 l, i64 r, i64 k, .slice PA pn pc, .slice LA ln lc] 24)) w.heap.size 24 [i64 t, i64 s, i64 g, i64 l, i64 r, i64 k, .slice PA pn pc, .slice LA ln lc]) := hid (Blk.made rfl rfl)
  have HK0 : Hid (Keep0 w (w.alloc (.cells #[i64 t, i64 s, i64 g, i64 l, i64 r, i64 k, .slice PA pn pc, .slice LA ln lc] 24))) := hid ((Keep.refl _ _).alloc _)
  have hz : w.heap.size ≤ w.heap.size + 1 := by omega
  have HR : Hid (∀ w2 e w', Made kd s v n w2 e w' → Keep0 w w2 → Made kd s v n w e w') := hid (by
    rintro w2 e w' ⟨x, sb, e1, h1, h2, h3, h4, h5⟩ hk
    exact ⟨x, sb, e1, h1, h2, hk.trans h3 (fun _ _ h => h), Nat.le_trans hk.size h4, Nat.le_trans hk.size h5⟩)
  have qb := HB.out.k8
  clear hkd
  rcases hk3 with rfl | rfl | rfl
  all_goals
    go_enter Try.func14, Try.ntmps14
    go_wp2_with fail
    first
      | refine (sh_Refund t s g l r k PA pn pc LA ln lc v n _ hs0 hs1 h0 h1).mono ?_
      | refine (sh_Raise t s g l r k PA pn pc LA ln lc v n _ hs0 hs1 h0 h1).mono ?_
      | refine (sh_Lower t s g l r k PA pn pc LA ln lc v n _ hs0 hs1 h0 h1).mono ?_
    rintro e w1 hm
    have HM := hid (HR.out _ _ _ hm HK0.out)
    obtain ⟨x, sb, rfl, -⟩ := hm
    go_wp2_with fail
    go_ret
    exact HM.out
theorem Ints.blk' {w : World} {g : Nat} {W : List Int} (h : Ints w g W) : ∃ cs, Blk w g 3 cs ∧ W.length ≤ cs.length := by
  obtain ⟨cur, h1, h2, _⟩ := h
  exact ⟨cur.toList, h1, by simpa using h2⟩

/-- a limit that is laid -/
def lim9 (lim : Int) (big : Bool) : Int := if big = true then 1099511627776 - lim % 100 else lim
theorem lim9_bd {lim : Int} (h : 0 ≤ lim ∧ lim ≤ 4294967295) (big : Bool) : 0 ≤ lim9 lim big ∧ lim9 lim big ≤ 1099511627776 := by
  have := Int.emod_nonneg lim (show (100 : Int) ≠ 0 by omega)
  have := Int.emod_lt_of_pos lim (show (0 : Int) < 100 by omega)
  unfold lim9
  split <;> omega
set_option maxHeartbeats 2000000 in
theorem law9_words (t s g l r k : Int) (PA : Option Addr) (pn pc : Nat) (LA : Option Addr) (ln lc : Nat) (nd nn st avl : Int) (QA : Option Addr) (qn qc : Nat) (KA : Option Addr) (kn kc : Nat) (v n u lim : Int) (big : Bool) (li : Nat) (WW : List Int) (w : World)
    (hOF : ∀ w', Calls Try.prog 11 #[.agg #[i64 t, i64 s, i64 g, i64 l, i64 r, i64 k, .slice PA pn pc, .slice LA ln lc, .int .u8 nd, .int .u32 nn, .int .u8 st, .int .u32 avl, .slice QA qn qc, .slice KA kn kc]] w' (Ret (.tuple #[i64 v, i64 n, i64 u]) w'))
    (hWO : ∀ w', Keep0 w w' → Calls Try.prog 39 #[.agg #[i64 t, i64 s, i64 g, i64 l, i64 r, i64 k, .slice PA pn pc, .slice LA ln lc, .int .u8 nd, .int .u32 nn, .int .u8 st, .int .u32 avl, .slice QA qn qc, .slice KA kn kc]] w' fun e w2 => ∃ A c', e = .returned (.slice A WW.length c') ∧ w2.ownsRow w'.heap.size 3 1 (.slice A WW.length c') WW.length (ints WW) ∧ Keep0 w' w2)
    (hs : 1 ≤ s ∧ s ≤ 8) (hv : 0 ≤ v ∧ v ≤ 1000) (hli : (li : Int) = v * (6 + 2 * s)) (hlt : li < WW.length) (hW : WW.length ≤ 10000) (hlim : 0 ≤ lim ∧ lim ≤ 4294967295) :
    Calls Try.prog 12 #[.agg #[i64 t, i64 s, i64 g, i64 l, i64 r, i64 k, .slice PA pn pc, .slice LA ln lc, .int .u8 nd, .int .u32 nn, .int .u8 st, .int .u32 avl, .slice QA qn qc, .slice KA kn kc], .int .u32 lim, .bool big] w fun e w' => ∃ A c', e = .returned (.slice A WW.length c') ∧
      w'.ownsRow w.heap.size 3 1 (.slice A WW.length c') WW.length (ints (WW.set li (lim9 lim big))) ∧ Keep0 w w' := by
  obtain ⟨i0, hti, hz0, hz1, hz2⟩ := info_parts info_int
  have HI := hid hti
  clear hti
  have HLI := hid hli
  have HB : Hid (Blk (w.alloc (.cells #[i64 t, i64 s, i64 g, i64 l, i64 r, i64 k, .slice PA pn pc, .slice LA ln lc, .int .u8 nd, .int .u32 nn, .int .u8 st, .int .u32 avl, .slice QA qn qc, .slice KA kn kc] 29)) w.heap.size 29 [i64 t, i64 s, i64 g, i64 l, i64 r, i64 k, .slice PA pn pc, .slice LA ln lc, .int .u8 nd, .int .u32 nn, .int .u8 st, .int .u32 avl, .slice QA qn qc, .slice KA kn kc]) := hid (Blk.made rfl rfl)
  have HK0 : Hid (Keep0 w (w.alloc (.cells #[i64 t, i64 s, i64 g, i64 l, i64 r, i64 k, .slice PA pn pc, .slice LA ln lc, .int .u8 nd, .int .u32 nn, .int .u8 st, .int .u32 avl, .slice QA qn qc, .slice KA kn kc] 29))) := hid ((Keep.refl _ _).alloc _)
  have HOF := hid hOF
  have HWO := hid hWO
  have qb := HB.out.k14
  clear hOF hWO hli
  go_enter Try.func12, Try.ntmps12
  go_wp2_with fail
  refine (HOF.out _).mono ?_
  rintro e w1 ⟨rfl, hk⟩
  have HB1 := hid (hk.blk HB.out (fun h => h))
  have HK1 : Hid (Keep0 w w1) := hid (Keep0.step HK0.out hk)
  have qb1 := HB1.out.k14
  clear hk HB HK0 qb
  go_wp2_with fail
  have HOA := hid (World.ownsRow_made (e := 3) (size := 1) (base := w.heap.size) w1 #[] 0 HK1.out.size (by unfold maxLen; omega) (by simp))
  have hb1z : w.heap.size < w1.heap.size := HB1.out.lt
  have HB1 := hid (((Keep.refl (fun _ => False) w1).alloc (.cells #[] 3)).blk HB1.out (fun h => h))
  have HK1' : Hid (Keep0 w (w1.alloc (.cells #[] 3))) := hid (HK1.out.alloc _)
  refine (HWO.out _ HK1'.out).mono ?_
  rintro e w2 ⟨A, wc, rfl, ho, hk⟩
  obtain ⟨wg, rfl, hwg, hwgb⟩ := ints_own ho (by omega) rfl
  have HO0 := hid (ownsRow_keep HOA.out hk (fun _ _ h => h))
  have HWG := hid hwg
  have HB2 := hid (hk.blk HB1.out (fun h => h))
  have HK2 : Hid (Keep0 w w2) := hid (HK1'.out.trans hk (fun _ _ h => h))
  have h12 : w1.heap.size < w2.heap.size := by have := hk.size; simp at this; omega
  have hw1z := HB1.out.lt
  have hc0 := HWG.out.cell
  have hwgz := hwg.lt
  have qb2 := HB2.out.k14
  clear hk ho hwg hwgb HOA HB1 HK1 HK1' qb1
  go_wp2_with (at_builtin; refine wpl_append_own ?a1 (.tmp 17) (.tmp 19) 22 ?a2 (w.heap.size) 3 i0 ?z 1 8 ?a3 ?a4 ?a5 ?a6 ?a7 ?a8 ?a9 (.slice (some ⟨w1.heap.size, 0, none⟩) 0 0) (0) ([]) ?a10 ?hown (⟨wg, 0, none⟩) (WW.length) (wc) (ints WW) ?a11 ?a12 ?hnews ?hone ?h63 ?hby ?hbase ?_; (case a1 => rfl); (case a2 => rfl); (case a3 => exact Try.underlying22); (case a4 => exact HI.out); (case a5 => exact hz0); (case a6 => exact hz1); (case a7 => exact hz2); (case a8 => rfl); (case a9 => decide); (case a10 => rfl); (case a11 => rfl); (case a12 => simp [ints]); (case hown => exact HO0.out); (case h63 => unfold maxLen; omega); (case hby => omega); (case hnews => intro j u hj; have hjl : j < WW.length := (by have := (List.getElem?_eq_some_iff.1 hj).1; simpa [ints] using this); have e1 : (⟨wg, 0, none⟩ : Addr).add j = ⟨wg, j, none⟩ := addr_add wg j; rw [e1, HWG.out.cell j hjl, ← hj, ints_get WW j hjl]); (case hone => exact ints_one WW); (case hbase => have := HK2.out.size; omega); intro A c' w3 hown3 hg3 hsl3; have HW := hid hown3; have HG := hid hg3; have HS := hid hsl3; clear hown3 hg3 hsl3; have hA : A ≠ none := (fun e => by have := (HS.out.2 e).1; cases this); have h0 := HW.out; simp only [Nat.zero_add, List.nil_append] at h0; obtain ⟨g2, rfl, hg2, hgB⟩ := ints_of_row h0 hA; have HR3 := hid h0; have HK3 : Hid (Keep0 w w3) := hid (Keep.grown HK2.out HG.out (fun k hk e => by simp [Value.ownBlock] at e; omega)); have HB3 : Hid (Blk w3 w.heap.size 29 [i64 t, i64 s, i64 g, i64 l, i64 r, i64 k, .slice PA pn pc, .slice LA ln lc, .int .u8 nd, .int .u32 nn, .int .u8 st, .int .u32 avl, .slice QA qn qc, .slice KA kn kc]) := hid ((Keep.grown (Keep.refl (fun k => k = w1.heap.size) w2) HG.out (fun k hk e => by simp [Value.ownBlock] at e; exact e.symm)).blk HB2.out (fun e => by have e' : w.heap.size = w1.heap.size := e; omega)); have hg2z := hg2.lt; have qb3 := HB3.out.k14; clear h0 hg2 HW HG HS HB2 HK2 qb2 HO0 hc0 HWG)
  refine Calls.mono (show Calls Try.prog 16 #[.agg #[i64 t, i64 s, i64 g, i64 l, i64 r, i64 k, .slice PA pn pc, .slice LA ln lc], i64 v] w3 (Ret (i64 (li : Int)) w3) from by have h := ref_Limit t s g l r k PA pn pc LA ln lc v w3 hs.1 hs.2 hv.1 hv.2; rw [← HLI.out] at h; exact h) ?_
  rintro e w4 ⟨rfl, hk⟩
  have HR4 := hid (ownsRow_keep HR3.out hk (fun _ _ h => h))
  have HB4 := hid (hk.blk HB3.out (fun h => h))
  have HK4 : Hid (Keep0 w w4) := hid (HK3.out.trans hk (fun _ _ h => h))
  obtain ⟨cs4, hcs4, hcl4⟩ := (ints_of_row HR4.out (by simp)).elim (fun q h => (by obtain ⟨e, h, -⟩ := h; cases e; exact h.blk' : ∃ cs, Blk w4 g2 3 cs ∧ WW.length ≤ cs.length))
  have c4 : w4.cell? ⟨g2, li, none⟩ = some (cs4[li]'(by omega)) := by rw [hcs4.cell li]; exact List.getElem?_eq_getElem _
  have f4 := hcs4.frozen li
  have z4 := hcs4.lt
  have yl : IntKind.i64.wrap lim = lim := IntWalk.i64_in _ (by omega)
  have qb4 := HB4.out.k14
  have HC4 := hid hcs4
  clear hk HR3 HB3 HK3 qb3 hg2z hcs4
  have hst := HR4.out.stored li (i64 lim)
  have HR5 := hid hst.1
  have HK5 : Hid (Keep0 w (w4.setCell ⟨g2, li, none⟩ (i64 lim))) := hid (Keep.grown HK4.out hst.2 (fun k hk e => by have : k = g2 := (Option.some.inj e).symm; omega))
  have hne5 : w.heap.size ≠ g2 := fun e => HB4.out.ne HC4.out (by decide) e
  have HB5 := hid (((Keep.refl (fun k => k = g2) w4).set ⟨g2, li, none⟩ (i64 lim) (fun _ => rfl)).blk HB4.out (fun h => hne5 h))
  have HC5 := hid (HC4.out.set li (i64 lim))
  clear hst HR4 HK4 HB4 HC4
  cases big
  · clear qb4
    go_wp2_with fail
    go_ret
    exact ⟨_, _, rfl, by rw [show lim9 lim false = lim from rfl, ← ints_set]; exact HR5.out, HK5.out⟩
  · have qb5 := HB5.out.k14
    go_wp2_with fail
    generalize w4.setCell ⟨g2, li, none⟩ (i64 lim) = w5 at *
    refine Calls.mono (show Calls Try.prog 16 #[.agg #[i64 t, i64 s, i64 g, i64 l, i64 r, i64 k, .slice PA pn pc, .slice LA ln lc], i64 v] w5 (Ret (i64 (li : Int)) w5) from by have h := ref_Limit t s g l r k PA pn pc LA ln lc v w5 hs.1 hs.2 hv.1 hv.2; rw [← HLI.out] at h; exact h) ?_
    rintro e w6 ⟨rfl, hk⟩
    have HR6 := hid (ownsRow_keep HR5.out hk (fun _ _ h => h))
    have HK6 : Hid (Keep0 w w6) := hid (HK5.out.trans hk (fun _ _ h => h))
    have HC6 := hid (hk.blk HC5.out (fun h => h))
    have hcl6 : li < (cs4.set li (i64 lim)).length := by rw [List.length_set]; omega
    have c6 : w6.cell? ⟨g2, li, none⟩ = some ((cs4.set li (i64 lim))[li]'hcl6) := by rw [HC6.out.cell li]; exact List.getElem?_eq_getElem _
    have f6 := HC6.out.frozen li
    have z6 := HC6.out.lt
    have m0 := Int.emod_nonneg lim (show (100 : Int) ≠ 0 by omega)
    have m1 := Int.emod_lt_of_pos lim (show (0 : Int) < 100 by omega)
    have y2 : lim.tmod 100 = lim % 100 := Int.tmod_eq_emod_of_nonneg hlim.1
    have y3 : IntKind.i64.wrap (1099511627776 - lim % 100) = 1099511627776 - lim % 100 := IntWalk.i64_in _ (by omega)
    clear hk HR5 HK5 HB5 HC5 qb5
    go_wp2_with fail
    go_ret
    have hst := HR6.out.stored li (i64 (1099511627776 - lim % 100))
    exact ⟨_, _, rfl, by rw [show lim9 lim true = 1099511627776 - lim % 100 from rfl, ← ints_set]; simpa using hst.1, Keep.grown HK6.out hst.2 (fun k hk e => by have : k = g2 := (Option.some.inj e).symm; omega)⟩

theorem addS_take (wd : Nat) (L : List Acc) (i : Nat) (h : i < L.length) : addS wd (L.take (i + 1)) = addS wd (L.take i) + (if L[i].w = (wd : Int) then ownD L[i] else 0) := by
  rw [List.take_succ_eq_append_getElem h, addS_snoc]
theorem addS_bound (wd : Nat) (L : List Acc) (h : ∀ x ∈ L, smallAcc x) (i : Nat) (hi : i ≤ L.length) : -(8796093022208 * (i : Int)) ≤ addS wd (L.take i) ∧ addS wd (L.take i) ≤ 8796093022208 * (i : Int) := by
  induction i with
  | zero => simp [addS]
  | succ i ih =>
    have h1 := ih (by omega)
    have h2 := ownD_small (h L[i] (List.getElem_mem (by omega)))
    rw [addS_take wd L i (by omega)]
    split <;> omega

set_option maxHeartbeats 2000000 in
theorem law9_added (w : World) (A : Option Addr) (c : Nat) (L : List Acc) (wd : Nat) (hA : AccsAt w A L) (hl : L.length ≤ 1000) (hs : ∀ x ∈ L, smallAcc x) :
    Calls Try.prog 30 #[.slice A L.length c, i64 wd] w (Ret (i64 (addS wd L)) w) := by
  have HA := hid hA
  have HS := hid hs
  clear hA hs
  go_enter Try.func30, Try.ntmps30
  go_wp2_with fail
  go_loopw [5, 6] (fun v3 v4 wr => ∃ i : Nat, i ≤ L.length ∧ v4 = .int .i64 i ∧ v3 = .int .i64 (addS wd (L.take i)) ∧ Keep0 w wr) (fun _ v _ => L.length - (intOf v).toNat)
  case atStart => exact ⟨0, Nat.zero_le _, rfl, rfl, Keep.refl _ _⟩
  case round =>
    obtain ⟨i, hi, rfl, rfl, hk⟩ := hrel
    have HK := hid hk
    clear hk
    by_cases hlt : i < L.length
    · obtain ⟨b, o, rfl, hc⟩ := (HA.out.keep HK.out).cell (by omega)
      have hbd := addS_bound wd L HS.out i (by omega)
      have hsm := HS.out L[i] (List.getElem_mem hlt)
      have HN := hid (addS_take wd L i hlt)
      obtain ⟨xk, xw, xa, xb, xo, hx⟩ : ∃ xk xw xa xb xo, L[i] = ⟨xk, xw, xa, xb, xo⟩ := ⟨_, _, _, _, _, rfl⟩
      have p0 : wr.cell? ⟨b, o + i * 5, none⟩ = some (i64 xk) := by have h := hc (i * 5 + 0) (i64 xk) (by rw [accs_get L i hlt 0 (by omega), hx]; rfl); simpa [Nat.add_assoc] using h
      have p1 : wr.cell? ⟨b, o + i * 5 + 1, none⟩ = some (i64 xw) := by have h := hc (i * 5 + 1) (i64 xw) (by rw [accs_get L i hlt 1 (by omega), hx]; rfl); simpa [Nat.add_assoc] using h
      have p2 : wr.cell? ⟨b, o + i * 5 + 2, none⟩ = some (i64 xa) := by have h := hc (i * 5 + 2) (i64 xa) (by rw [accs_get L i hlt 2 (by omega), hx]; rfl); simpa [Nat.add_assoc] using h
      have p3 : wr.cell? ⟨b, o + i * 5 + 3, none⟩ = some (i64 xb) := by have h := hc (i * 5 + 3) (i64 xb) (by rw [accs_get L i hlt 3 (by omega), hx]; rfl); simpa [Nat.add_assoc] using h
      have p4 : wr.cell? ⟨b, o + i * 5 + 4, none⟩ = some (.bool xo) := by have h := hc (i * 5 + 4) (.bool xo) (by rw [accs_get L i hlt 4 (by omega), hx]; rfl); simpa [Nat.add_assoc] using h
      have z := World.block_lt_of_cell? _ _ p0
      simp only at z
      rw [hx] at hsm HN
      unfold smallAcc at hsm
      simp only at hsm HN
      clear hc hx
      generalize addS wd (L.take i) = N at *
      by_cases h1 : xw = wd
      · have g1 : (xw == (wd : Int)) = true := by simpa using h1
        rw [if_pos h1] at HN
        clear h1
        by_cases h2 : xk = 2
        · have hd : ownD ⟨xk, xw, xa, xb, xo⟩ = xa := by simp [ownD, h2]
          have HD := hid hd
          have g3 : (xk == 3) = false := by simp; omega
          have g2 : (xk == 2) = true := by simpa using h2
          have hy : IntKind.i64.wrap (N + xa) = N + xa := IntWalk.i64_in _ (by omega)
          clear hd h2
          go_wp2_with fail
          go_roundw
          case rel => exact ⟨i + 1, by omega, by go_num, by rw [HN.out, HD.out], HK.out⟩
          case measure => simp [intOf]; omega
        · have g2 : (xk == 2) = false := by simpa using h2
          by_cases h3 : xk = 3
          · have g3 : (xk == 3) = true := by simpa using h3
            cases xo
            · have hd : ownD ⟨xk, xw, xa, xb, false⟩ = 0 := by simp [ownD, h2]
              have HD := hid hd
              clear hd h2 h3
              go_wp2_with fail
              go_roundw
              case rel => exact ⟨i + 1, by omega, by go_num, by rw [HN.out, HD.out, Int.add_zero], HK.out⟩
              case measure => simp [intOf]; omega
            · have hd : ownD ⟨xk, xw, xa, xb, true⟩ = xb - xa := by simp [ownD, h2, h3]
              have hy : IntKind.i64.wrap (N + xb) = N + xb := IntWalk.i64_in _ (by omega)
              have hy2 : IntKind.i64.wrap (N + xb - xa) = N + xb - xa := IntWalk.i64_in _ (by omega)
              have HD := hid hd
              clear hd h2 h3
              go_wp2_with fail
              go_region
              go_wp2_with fail
              go_roundw
              case rel => exact ⟨i + 1, by omega, by go_num, by rw [HN.out, HD.out]; congr 1; omega, by repeat (with_reducible first | exact Keep.refl _ _ | exact HK.out | apply Keep.alloc | apply Keep.drewN | apply Keep.drew)⟩
              case measure => simp [intOf]; omega
          · have g3 : (xk == 3) = false := by simpa using h3
            have hd : ownD ⟨xk, xw, xa, xb, xo⟩ = 0 := by simp [ownD, h2, h3]
            have HD := hid hd
            clear hd h2 h3
            go_wp2_with fail
            go_roundw
            case rel => exact ⟨i + 1, by omega, by go_num, by rw [HN.out, HD.out, Int.add_zero], HK.out⟩
            case measure => simp [intOf]; omega
      · have g1 : (xw == (wd : Int)) = false := by simpa using h1
        rw [if_neg h1, Int.add_zero] at HN
        clear h1
        go_wp2_with fail
        go_roundw
        case rel => exact ⟨i + 1, by omega, by go_num, by rw [HN.out], HK.out⟩
        case measure => simp [intOf]; omega
    · have hf : L.take i = L := List.take_of_length_le (by omega)
      have HF := hid hf
      clear hf
      go_wp2_with fail
      go_ret
      exact ⟨by rw [HF.out]; rfl, HK.out⟩
end Go.Proofs.Ytonekdolmbdniaa
