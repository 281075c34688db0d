/- PlanNames: which word is whose hangs on how many nodes, stripes and tickets there are, on nothing else. -/
import Derived.Test.YtjpkepceenghcaaLaw5
import Derived.Test.YtjpkepceenghcaaRow
namespace Go.Proofs.Ytjpkepceenghcaa
open Go.ChangeShapes Go.WideShapes Go.ChangeAt Go.RowKit
set_option linter.unusedVariables false
set_option linter.unusedSimpArgs false

def pl (n : Nat) : List Int := (List.range n).map fun (i : Nat) => (if (1 : Int) < i then 1 else (i : Int)) - 1
def ll (n : Nat) : List Int := (List.range n).map fun (i : Nat) => (i : Int)
theorem pl_snoc (n : Nat) : pl (n + 1) = pl n ++ [(if (1 : Int) < n then 1 else (n : Int)) - 1] := by simp [pl, List.range_succ]
theorem ll_snoc (n : Nat) : ll (n + 1) = ll n ++ [(n : Int)] := by simp [ll, List.range_succ]
theorem pl_length (n : Nat) : (pl n).length = n := by simp [pl]
theorem ll_length (n : Nat) : (ll n).length = n := by simp [ll]
theorem ints_snoc (l : List Int) (x : Int) : ints (l ++ [x]) = ints l ++ [i64 x] := by simp [ints]
theorem names_right {t s g l r k t' s' g' l' r' k' : Int} {P L P' L' : List Int} (h : Right t s g l r k P L) (h' : Right t' s' g' l' r' k' P' L') : rightB t' s g' l' r' k (pl P.length) (ll P.length) = true := by
  have hs : stripesB s = true := by have := h.s; simp [stripesB]; omega
  have hp := h.p
  have h1 : headB t' s g' l' r' k (pl P.length).length (ll P.length).length = true := by
    simp only [headB, pl_length, ll_length, Bool.and_eq_true]
    exact ⟨⟨⟨⟨⟨⟨⟨inB_iff.2 h'.t, hs⟩, inB_iff.2 h'.g⟩, inB_iff.2 h'.l⟩, inB_iff.2 h'.r⟩, inB_iff.2 h.k⟩, inB_iff.2 (by omega)⟩, by simp⟩
  rw [rightB, h1]
  generalize P.length = n at hp ⊢
  obtain ⟨h1, h2⟩ := hp
  have : n = 1 ∨ n = 2 ∨ n = 3 ∨ n = 4 ∨ n = 5 ∨ n = 6 ∨ n = 7 ∨ n = 8 ∨ n = 9 ∨ n = 10 ∨ n = 11 ∨ n = 12 := by omega
  rcases this with rfl | rfl | rfl | rfl | rfl | rfl | rfl | rfl | rfl | rfl | rfl | rfl <;> decide
theorem ref_Right_all (t s g l r k : Int) (PA : Option Addr) (P : List Int) (pc : Nat) (LA : Option Addr) (L : List Int) (lc : Nat) (w : World) (hP : IntsAt w PA P) (hL : IntsAt w LA L) (hpl : P.length ≤ 1000) (hll : L.length ≤ 1000) :
    Calls Try.prog 23 #[.agg #[i64 t, i64 s, i64 g, i64 l, i64 r, i64 k, .slice PA P.length pc, .slice LA L.length lc]] w (Ret (.bool (rightB t s g l r k P L)) w) := by
  cases hh : headB t s g l r k P.length L.length
  · exact ref_Right_no _ _ _ _ _ _ _ _ _ _ _ _ _ hpl hll hh
  · exact ref_Right_yes _ _ _ _ _ _ _ _ _ _ _ _ _ hP hL hpl hll hh
theorem ints_at_row {w : World} {B : Nat} {A : Option Addr} {n c : Nat} {l : List Int} (h : w.ownsRow B 3 1 (.slice A n c) n (ints l)) (hn : 0 < n) : ∃ g, A = some ⟨g, 0, none⟩ ∧ IntsAt w A l := by
  have hl : (ints l).length = n := by simpa using h.1
  have hl' : l.length = n := by simpa [ints] using hl
  rcases h.2 with ⟨e, h0⟩ | ⟨g, cap, cur, e, _, _, _⟩
  · omega
  · cases e
    refine ⟨g, rfl, Or.inr ⟨g, 0, rfl, fun i hi => ?_⟩⟩
    have := h.cells (g := g) rfl i (i64 (rd l i)) (ints_get l i hi)
    rw [addr_add] at this
    rw [Nat.zero_add]
    exact this

theorem opt_ne {a b : Option Nat} (h : ∀ k, a = some k → b ≠ some k) : b = none ∨ b ≠ a := by
  cases b with
  | none => exact Or.inl rfl
  | some y => exact Or.inr (fun e => h y e.symm rfl)

set_option maxHeartbeats 4000000 in
set_option maxRecDepth 100000 in
theorem planNames_walk {w : World} {v : Value} (hc : ConfIn w v) {v' : Value} (hc' : ConfIn w v') (x : Int) (hx : (Lit.int .u8 x).wf = true) : Calls Try.prog 6 #[v, v', .int .u8 x] w (Ret (.bool true) w) := by
  have hx := bounds_u8 hx
  obtain ⟨i0, hti, hz0, hz1, hz2⟩ := info_parts info_int
  have HI := hid hti
  clear hti
  obtain ⟨t, s, g, l, r, k, P, L, PA, pc, LA, lc, rfl, hP, hL, hp1, hl1⟩ := hc
  obtain ⟨t', s', g', l', r', k', P', L', PA', pc', LA', lc', rfl, hP', hL', hp1', hl1'⟩ := hc'
  have HG := hid (fun (w' : World) (hk : Keep0 w w') => law_Good t s g l r k PA P pc LA L lc w' (hP.keep hk) (hL.keep hk) hp1 hl1)
  have HG' := hid (fun (w' : World) (hk : Keep0 w w') => law_Good t' s' g' l' r' k' PA' P' pc' LA' L' lc' w' (hP'.keep hk) (hL'.keep hk) hp1' hl1')
  have HB0 : Hid (Blk ((w.alloc (.cells #[i64 t, i64 s, i64 g, i64 l, i64 r, i64 k, .slice PA P.length pc, .slice LA L.length lc] 24)).alloc (.cells #[i64 t', i64 s', i64 g', i64 l', i64 r', i64 k', .slice PA' P'.length pc', .slice LA' L'.length lc'] 24)) w.heap.size 24 [i64 t, i64 s, i64 g, i64 l, i64 r, i64 k, .slice PA P.length pc, .slice LA L.length lc]) := hid ((Blk.made rfl rfl).alloc _)
  have HB1 : Hid (Blk ((w.alloc (.cells #[i64 t, i64 s, i64 g, i64 l, i64 r, i64 k, .slice PA P.length pc, .slice LA L.length lc] 24)).alloc (.cells #[i64 t', i64 s', i64 g', i64 l', i64 r', i64 k', .slice PA' P'.length pc', .slice LA' L'.length lc'] 24)) (w.heap.size + 1) 24 [i64 t', i64 s', i64 g', i64 l', i64 r', i64 k', .slice PA' P'.length pc', .slice LA' L'.length lc']) := hid (Blk.made (by simp) rfl)
  clear hP hL hP' hL'
  go_enter Try.func6, Try.ntmps6
  go_wp2_with fail
  refine (law5_head _).mono ?_
  rintro e w1 ⟨rfl, hk⟩
  have HK1 : Hid (Keep0 w w1) := hid (Keep0.step (by repeat (with_reducible first | exact Keep.refl _ _ | apply Keep.alloc | apply Keep.drewN | apply Keep.drew)) hk)
  have THB0 := hk.blk (show Blk _ _ _ _ from by repeat (with_reducible first | exact HB0.out | apply Blk.alloc | apply Blk.drewN | apply Blk.drew)) (fun h => h)
  have THB1 := hk.blk (show Blk _ _ _ _ from by repeat (with_reducible first | exact HB1.out | apply Blk.alloc | apply Blk.drewN | apply Blk.drew)) (fun h => h)
  clear hk HB0 HB1
  have HB0 := hid THB0; clear THB0
  have HB1 := hid THB1; clear THB1
  have qHB0 := HB0.out.k8
  have qHB1 := HB1.out.k8
  go_wp2_with fail
  refine (HG.out _ HK1.out).mono ?_
  rintro e w2 ⟨rfl, hk⟩
  have HK2 : Hid (Keep0 w w2) := hid (Keep0.step (by repeat (with_reducible first | exact HK1.out | exact Keep.refl _ _ | apply Keep.alloc | apply Keep.drewN | apply Keep.drew)) hk)
  have THB0 := hk.blk (show Blk _ _ _ _ from by repeat (with_reducible first | exact HB0.out | apply Blk.alloc | apply Blk.drewN | apply Blk.drew)) (fun h => h)
  have THB1 := hk.blk (show Blk _ _ _ _ from by repeat (with_reducible first | exact HB1.out | apply Blk.alloc | apply Blk.drewN | apply Blk.drew)) (fun h => h)
  clear hk HB0 HB1 qHB0 qHB1
  have HB0 := hid THB0; clear THB0
  have HB1 := hid THB1; clear THB1
  have qHB0 := HB0.out.k8
  have qHB1 := HB1.out.k8
  cases hgood : goodB t s g l r k P L
  · go_wp2
    go_ret
    exact ⟨rfl, HK2.out⟩
  · go_wp2_with fail
    refine (HG'.out _ HK2.out).mono ?_
    rintro e w3 ⟨rfl, hk⟩
    have HK3 : Hid (Keep0 w w3) := hid (Keep0.step (by repeat (with_reducible first | exact HK2.out | exact Keep.refl _ _ | apply Keep.alloc | apply Keep.drewN | apply Keep.drew)) hk)
    have THB0 := hk.blk (show Blk _ _ _ _ from by repeat (with_reducible first | exact HB0.out | apply Blk.alloc | apply Blk.drewN | apply Blk.drew)) (fun h => h)
    have THB1 := hk.blk (show Blk _ _ _ _ from by repeat (with_reducible first | exact HB1.out | apply Blk.alloc | apply Blk.drewN | apply Blk.drew)) (fun h => h)
    clear hk HB0 HB1 qHB0 qHB1
    have HB0 := hid THB0; clear THB0
    have HB1 := hid THB1; clear THB1
    have qHB0 := HB0.out.k8
    have qHB1 := HB1.out.k8
    cases hgood' : goodB t' s' g' l' r' k' P' L'
    · go_wp2
      go_ret
      exact ⟨rfl, HK3.out⟩
    · have R := Right.of hgood
      have R' := Right.of hgood'
      have hs := R.sb
      have hk := R.k
      have hp := R.p
      have hright := names_right R R'
      have HRI := hid hright
      clear R R' hgood hgood' hp1 hl1 hp1' hl1' HG HG' hright
      have HE : Hid (Blk (w3.alloc (.cells #[i64 t', i64 s, i64 g', i64 l', i64 r', i64 k, .slice none 0 0, .slice none 0 0] 24)) w3.heap.size 24 [i64 t', i64 s, i64 g', i64 l', i64 r', i64 k, .slice none (0) 0, .slice none (0) 0]) := hid (Blk.made rfl rfl)
      go_wp2_with fail
      have hb0l := HB0.out.lt
      go_loopw [9] (fun v wr => ∃ i : Nat, i ≤ P.length ∧ v = .int .i64 i ∧ ∃ A1 c1 A2 c2, Blk wr w3.heap.size 24 [i64 t', i64 s, i64 g', i64 l', i64 r', i64 k, .slice A1 (i) c1, .slice A2 (i) c2] ∧ wr.ownsRow (w3.heap.size + 1) 3 1 (.slice A1 i c1) i (ints (pl i)) ∧ wr.ownsRow (w3.heap.size + 1) 3 1 (.slice A2 i c2) i (ints (ll i)) ∧
        (∀ k, (Value.slice A1 i c1).ownBlock = some k → (Value.slice A2 i c2).ownBlock ≠ some k) ∧ Keep0 w3 wr) (fun v _ => P.length - (intOf v).toNat)
      case atStart => exact ⟨0, Nat.zero_le _, rfl, none, 0, none, 0, HE.out, World.ownsRow_nil _ _ _ _, World.ownsRow_nil _ _ _ _, fun k h => by simp [Value.ownBlock] at h, (Keep.refl _ _).alloc _⟩
      case round =>
        obtain ⟨i, hi, rfl, A1, c1, A2, c2, he, ho1, ho2, hne, hkr⟩ := hrel
        have HEE := hid he
        have HO1 := hid ho1
        have HO2 := hid ho2
        have HNE := hid hne
        have HKR := hid hkr
        have HBR := hid (hkr.blk HB0.out (fun h => h))
        have qe := he.k8
        have qb := HBR.out.k8
        clear he ho1 ho2 hne hkr
        by_cases hlt : i < P.length
        · go_wp2_with (first | (at_builtin; refine wpl_append_own ?a1 (.tmp 38) (.tmp 42) 22 ?a2 (w3.heap.size + 1) 3 i0 ?z 1 8 ?a3 ?a4 ?a5 ?a6 ?a7 ?a8 ?a9 (.slice A1 i c1) (i) (ints (pl i)) ?a10 ?hown (⟨wr.heap.size, 0, none⟩) (1) (1) ([i64 ((if (1 : Int) < i then 1 else (i : Int)) - 1)]) ?a11 ?a12 ?hnews ?hone ?h63 ?hby ?hbase ?_; (case a1 => rfl); (case a2 => rfl); (case a3 => exact Try.underlying22); (case a4 => exact HI.out); (case a5 => exact hz0); (case a6 => exact hz1); (case a7 => exact hz2); (case a8 => rfl); (case a9 => decide); (case a10 => rfl); (case a11 => rfl); (case a12 => rfl); (case hown => exact HO1.out.alloc _); (case h63 => unfold maxLen; omega); (case hby => omega); (case hnews => exact news_at (Blk.made rfl (by simp))); (case hone => simp [Value.oneCell']); (case hbase => have := HEE.out.lt; simp; omega); intro A4 c4 w4 hown4 hg4 hsl4; have h04 := hown4; rw [← ints_snoc, ← pl_snoc] at h04; have HO4 := hid h04; have T := grown_blk hg4 (HEE.out.alloc _) (ownBlock_ne HO1.out HEE.out (by decide)); have HE4 := hid T; have qe4 := T.k8; have HK4 := hid (Keep.grown (HKR.out.alloc _) hg4 (fun k hk e => by have := (HO1.out.lt k e).1; omega)); have HB4 := hid (grown_blk hg4 (HBR.out.alloc _) (ownBlock_ne HO1.out HBR.out (by decide))); have qb4 := HB4.out.k8; have HO24 := hid ((HO2.out.alloc (.cells #[i64 ((if (1 : Int) < i then 1 else (i : Int)) - 1)] 3)).kept hg4 (opt_ne HNE.out)); have HSL4 := hid hsl4.1; clear hown4 hg4 hsl4 T h04) | (at_builtin; refine wpl_append_own ?a1 (.tmp 46) (.tmp 48) 22 ?a2 (w3.heap.size + 1) 3 i0 ?z 1 8 ?a3 ?a4 ?a5 ?a6 ?a7 ?a8 ?a9 (.slice A2 i c2) (i) (ints (ll i)) ?a10 ?hown (⟨w4.heap.size, 0, none⟩) (1) (1) ([i64 (i : Int)]) ?a11 ?a12 ?hnews ?hone ?h63 ?hby ?hbase ?_; (case a1 => rfl); (case a2 => rfl); (case a3 => exact Try.underlying22); (case a4 => exact HI.out); (case a5 => exact hz0); (case a6 => exact hz1); (case a7 => exact hz2); (case a8 => rfl); (case a9 => decide); (case a10 => rfl); (case a11 => rfl); (case a12 => rfl); (case hown => exact (ownsRow_other HO24.out _ (fun e => ownBlock_ne HO24.out HE4.out (by decide) e.symm)).alloc _); (case h63 => unfold maxLen; omega); (case hby => omega); (case hnews => exact news_at (Blk.made (by simp) rfl)); (case hone => simp [Value.oneCell']); (case hbase => have := HE4.out.lt; simp; omega); intro A6 c6 w6 hown6 hg6 hsl6; have h06 := hown6; rw [← ints_snoc, ← ll_snoc] at h06; have HO6 := hid h06; have hown2 := ownBlock_ne HO24.out HE4.out (by decide); have T := grown_blk hg6 ((HE4.out.set 6 (.slice A4 (i + 1) c4)).alloc _) hown2; have HE6 := hid T; have qe6 := T.k8; have HK6 := hid (Keep.grown ((HK4.out.set ⟨w3.heap.size, 6, none⟩ (.slice A4 (i + 1) c4) (fun h => absurd h (Nat.lt_irrefl _))).alloc _) hg6 (fun k hk e => by have := (HO24.out.lt k e).1; omega)); have HSL6 := hid hsl6.1; have hg66 := hid hg6; clear hown6 hg6 hsl6 T h06))
          go_roundw
          case rel =>
            refine ⟨i + 1, by omega, by go_num, A4, c4, A6, c6, HE6.out.set 7 _, ?_, ?_, ?_, HK6.out.set _ _ (fun h => absurd h (Nat.lt_irrefl _))⟩
            · have h1 := (ownsRow_other HO4.out (a := ⟨w3.heap.size, 6, none⟩) (.slice A4 (i + 1) c4) (fun e => ownBlock_ne HO4.out HE4.out (by decide) e.symm)).alloc (.cells #[i64 (i : Int)] 3)
              have h2 := h1.kept hg66 (opt_ne (fun k hk2 hk4 => by
                rcases HSL4.out k hk4 with h | h
                · exact HNE.out k h hk2
                · have := (HO2.out.lt k hk2).2; simp at h; omega))
              exact ownsRow_other h2 _ (fun e => ownBlock_ne h2 HE6.out (by decide) e.symm)
            · exact ownsRow_other HO6.out _ (fun e => ownBlock_ne HO6.out HE6.out (by decide) e.symm)
            · intro k hk4 hk6
              rcases HSL6.out k hk6 with h | h
              · rcases HSL4.out k hk4 with h' | h'
                · exact HNE.out k h' h
                · have := (HO2.out.lt k h).2; simp at h'; omega
              · have := (HO4.out.lt k hk4).2; simp at h; omega
          case measure => simp [intOf]; omega
        · have hie : i = P.length := by omega
          subst hie
          obtain ⟨g1, rfl, hi1⟩ := ints_at_row HO1.out (by omega)
          obtain ⟨g2, rfl, hi2⟩ := ints_at_row HO2.out (by omega)
          have HI1 := hid hi1
          have HI2 := hid hi2
          have HK9 := hid (Keep0.step HK3.out HKR.out)
          have hv0 : 0 ≤ x % (P.length : Int) := Int.emod_nonneg _ (by omega)
          have hv1 : x % (P.length : Int) < P.length := Int.emod_lt_of_pos _ (by omega)
          have HRC := hid (fun w' (h1 : IntsAt w' (some ⟨g1, 0, none⟩) (pl P.length)) (h2 : IntsAt w' (some ⟨g2, 0, none⟩) (ll P.length)) => ref_Right_all t' s g' l' r' k _ (pl P.length) c1 _ (ll P.length) c2 w' h1 h2 (by rw [pl_length]; omega) (by rw [ll_length]; omega))
          simp only [HRI.out, pl_length, ll_length] at HRC
          clear hi1 hi2 HO1 HO2 HNE HKR
          go_upto_region 15 with fail
          generalize x % (P.length : Int) = v at *
          apply wp_region_text (WI := fun S wx => Keep0 w wx ∧ Blk wx w.heap.size 24 [i64 t, i64 s, i64 g, i64 l, i64 r, i64 k, .slice PA P.length pc, .slice LA L.length lc] ∧ Blk wx w3.heap.size 24 [i64 t', i64 s, i64 g', i64 l', i64 r', i64 k, .slice (some ⟨g1, 0, none⟩) (P.length) c1, .slice (some ⟨g2, 0, none⟩) (P.length) c2] ∧ IntsAt wx (some ⟨g1, 0, none⟩) (pl P.length) ∧ IntsAt wx (some ⟨g2, 0, none⟩) (ll P.length)) (by kernel_rfl) (by kernel_rfl)
          case hob =>
            apply Oblig.cons
            case h =>
              intro S w1 hwi hSi hd hcl
              apply StepOk.intro
              intro K hK
              have cb1 := hwi.2.1.k8
              have cb2 := hwi.2.2.1.k8
              go_simp
              apply hK
              · rfl
              · conv => (lhs; whnf)
              · exact hwi
            simp only [put_lit, put_none, List.set_cons_succ, List.set_cons_zero]
            apply Oblig.cons
            case h =>
              intro S w1 hwi hSi hd hcl
              apply StepOk.intro
              intro K hK
              have cb1 := hwi.2.1.k8
              have cb2 := hwi.2.2.1.k8
              go_simp
              apply hK
              · rfl
              · conv => (lhs; whnf)
              · exact hwi
            simp only [put_lit, put_none, List.set_cons_succ, List.set_cons_zero]
            apply Oblig.cons
            case h =>
              intro S w1 hwi hSi hd hcl
              apply StepOk.intro
              intro K hK
              have cb1 := hwi.2.1.k8
              have cb2 := hwi.2.2.1.k8
              go_simp
              apply hK
              · rfl
              · conv => (lhs; whnf)
              · exact hwi
            simp only [put_lit, put_none, List.set_cons_succ, List.set_cons_zero]
            apply Oblig.cons
            case h =>
              intro S w1 hwi hSi hd hcl
              apply StepOk.intro
              intro K hK
              have cb1 := hwi.2.1.k8
              have cb2 := hwi.2.2.1.k8
              go_simp
              refine (HRC.out _ hwi.2.2.2.1 hwi.2.2.2.2).mono ?_
              rintro e w2 ⟨rfl, hk⟩
              apply hK
              · rfl
              · conv => (lhs; whnf)
              · exact ⟨Keep0.step hwi.1 hk, hk.blk hwi.2.1 (fun h => h), hk.blk hwi.2.2.1 (fun h => h), hwi.2.2.2.1.keep hk, hwi.2.2.2.2.keep hk⟩
            simp only [put_lit, put_none, List.set_cons_succ, List.set_cons_zero]
            apply Oblig.cons
            case h =>
              intro S w1 hwi hSi hd hcl
              apply StepOk.intro
              intro K hK
              have cb1 := hwi.2.1.k8
              have cb2 := hwi.2.2.1.k8
              go_simp
              apply hK
              · rfl
              · conv => (lhs; whnf)
              · exact hwi
            simp only [put_lit, put_none, List.set_cons_succ, List.set_cons_zero]
            apply Oblig.cons
            case h =>
              intro S w1 hwi hSi hd hcl
              apply StepOk.intro
              intro K hK
              have cb1 := hwi.2.1.k8
              have cb2 := hwi.2.2.1.k8
              go_simp
              apply hK
              · rfl
              · conv => (lhs; whnf)
              · exact hwi
            simp only [put_lit, put_none, List.set_cons_succ, List.set_cons_zero]
            apply Oblig.cons
            case h =>
              intro S w1 hwi hSi hd hcl
              apply StepOk.intro
              intro K hK
              have cb1 := hwi.2.1.k8
              have cb2 := hwi.2.2.1.k8
              go_simp
              apply hK
              · rfl
              · conv => (lhs; whnf)
              · exact hwi
            simp only [put_lit, put_none, List.set_cons_succ, List.set_cons_zero]
            apply Oblig.cons
            case h =>
              intro S w1 hwi hSi hd hcl
              apply StepOk.intro
              intro K hK
              have cb1 := hwi.2.1.k8
              have cb2 := hwi.2.2.1.k8
              go_simp
              apply hK
              · rfl
              · conv => (lhs; whnf)
              · exact hwi
            simp only [put_lit, put_none, List.set_cons_succ, List.set_cons_zero]
            apply Oblig.cons
            case h =>
              intro S w1 hwi hSi hd hcl
              apply StepOk.intro
              intro K hK
              have cb1 := hwi.2.1.k8
              have cb2 := hwi.2.2.1.k8
              go_simp
              refine (plan_Limit t' s g' l' r' k (some ⟨g1, 0, none⟩) P.length c1 (some ⟨g2, 0, none⟩) P.length c2 v _ hs.1 hs.2 (by omega) (by omega)).mono ?_
              rintro e w2 ⟨rfl, hk⟩
              apply hK
              · rfl
              · conv => (lhs; whnf)
              · exact ⟨Keep0.step hwi.1 hk, hk.blk hwi.2.1 (fun h => h), hk.blk hwi.2.2.1 (fun h => h), hwi.2.2.2.1.keep hk, hwi.2.2.2.2.keep hk⟩
            simp only [put_lit, put_none, List.set_cons_succ, List.set_cons_zero]
            apply Oblig.cons
            case h =>
              intro S w1 hwi hSi hd hcl
              apply StepOk.intro
              intro K hK
              have cb1 := hwi.2.1.k8
              have cb2 := hwi.2.2.1.k8
              go_simp
              apply hK
              · rfl
              · conv => (lhs; whnf)
              · exact hwi
            simp only [put_lit, put_none, List.set_cons_succ, List.set_cons_zero]
            apply Oblig.cons
            case h =>
              intro S w1 hwi hSi hd hcl
              apply StepOk.intro
              intro K hK
              have cb1 := hwi.2.1.k8
              have cb2 := hwi.2.2.1.k8
              go_simp
              apply hK
              · rfl
              · conv => (lhs; whnf)
              · exact hwi
            simp only [put_lit, put_none, List.set_cons_succ, List.set_cons_zero]
            apply Oblig.cons
            case h =>
              intro S w1 hwi hSi hd hcl
              apply StepOk.intro
              intro K hK
              have cb1 := hwi.2.1.k8
              have cb2 := hwi.2.2.1.k8
              go_simp
              refine (plan_Limit t s g l r k PA P.length pc LA L.length lc v _ hs.1 hs.2 (by omega) (by omega)).mono ?_
              rintro e w2 ⟨rfl, hk⟩
              apply hK
              · rfl
              · conv => (lhs; whnf)
              · exact ⟨Keep0.step hwi.1 hk, hk.blk hwi.2.1 (fun h => h), hk.blk hwi.2.2.1 (fun h => h), hwi.2.2.2.1.keep hk, hwi.2.2.2.2.keep hk⟩
            simp only [put_lit, put_none, List.set_cons_succ, List.set_cons_zero]
            apply Oblig.cons
            case h =>
              intro S w1 hwi hSi hd hcl
              apply StepOk.intro
              intro K hK
              have cb1 := hwi.2.1.k8
              have cb2 := hwi.2.2.1.k8
              go_simp
              apply hK
              · rfl
              · conv => (lhs; whnf)
              · exact hwi
            simp only [put_lit, put_none, List.set_cons_succ, List.set_cons_zero]
            apply Oblig.cons
            case h =>
              intro S w1 hwi hSi hd hcl
              apply StepOk.intro
              intro K hK
              have cb1 := hwi.2.1.k8
              have cb2 := hwi.2.2.1.k8
              go_simp
              apply hK
              · rfl
              · conv => (lhs; whnf)
              · exact hwi
            simp only [put_lit, put_none, List.set_cons_succ, List.set_cons_zero]
            apply Oblig.cons
            case h =>
              intro S w1 hwi hSi hd hcl
              apply StepOk.intro
              intro K hK
              have cb1 := hwi.2.1.k8
              have cb2 := hwi.2.2.1.k8
              go_simp
              apply hK
              · rfl
              · conv => (lhs; whnf)
              · exact hwi
            simp only [put_lit, put_none, List.set_cons_succ, List.set_cons_zero]
            apply Oblig.cons
            case h =>
              intro S w1 hwi hSi hd hcl
              apply StepOk.intro
              intro K hK
              have cb1 := hwi.2.1.k8
              have cb2 := hwi.2.2.1.k8
              go_simp
              apply hK
              · rfl
              · conv => (lhs; whnf)
              · exact hwi
            simp only [put_lit, put_none, List.set_cons_succ, List.set_cons_zero]
            apply Oblig.cons
            case h =>
              intro S w1 hwi hSi hd hcl
              apply StepOk.intro
              intro K hK
              have cb1 := hwi.2.1.k8
              have cb2 := hwi.2.2.1.k8
              go_simp
              apply hK
              · rfl
              · conv => (lhs; whnf)
              · exact hwi
            simp only [put_lit, put_none, List.set_cons_succ, List.set_cons_zero]
            apply Oblig.cons
            case h =>
              intro S w1 hwi hSi hd hcl
              apply StepOk.intro
              intro K hK
              have cb1 := hwi.2.1.k8
              have cb2 := hwi.2.2.1.k8
              go_simp
              refine (plan_Avail t' s g' l' r' k (some ⟨g1, 0, none⟩) P.length c1 (some ⟨g2, 0, none⟩) P.length c2 v _ hs.1 hs.2 (by omega) (by omega)).mono ?_
              rintro e w2 ⟨rfl, hk⟩
              apply hK
              · rfl
              · conv => (lhs; whnf)
              · exact ⟨Keep0.step hwi.1 hk, hk.blk hwi.2.1 (fun h => h), hk.blk hwi.2.2.1 (fun h => h), hwi.2.2.2.1.keep hk, hwi.2.2.2.2.keep hk⟩
            simp only [put_lit, put_none, List.set_cons_succ, List.set_cons_zero]
            apply Oblig.cons
            case h =>
              intro S w1 hwi hSi hd hcl
              apply StepOk.intro
              intro K hK
              have cb1 := hwi.2.1.k8
              have cb2 := hwi.2.2.1.k8
              go_simp
              apply hK
              · rfl
              · conv => (lhs; whnf)
              · exact hwi
            simp only [put_lit, put_none, List.set_cons_succ, List.set_cons_zero]
            apply Oblig.cons
            case h =>
              intro S w1 hwi hSi hd hcl
              apply StepOk.intro
              intro K hK
              have cb1 := hwi.2.1.k8
              have cb2 := hwi.2.2.1.k8
              go_simp
              apply hK
              · rfl
              · conv => (lhs; whnf)
              · exact hwi
            simp only [put_lit, put_none, List.set_cons_succ, List.set_cons_zero]
            apply Oblig.cons
            case h =>
              intro S w1 hwi hSi hd hcl
              apply StepOk.intro
              intro K hK
              have cb1 := hwi.2.1.k8
              have cb2 := hwi.2.2.1.k8
              go_simp
              refine (plan_Avail t s g l r k PA P.length pc LA L.length lc v _ hs.1 hs.2 (by omega) (by omega)).mono ?_
              rintro e w2 ⟨rfl, hk⟩
              apply hK
              · rfl
              · conv => (lhs; whnf)
              · exact ⟨Keep0.step hwi.1 hk, hk.blk hwi.2.1 (fun h => h), hk.blk hwi.2.2.1 (fun h => h), hwi.2.2.2.1.keep hk, hwi.2.2.2.2.keep hk⟩
            simp only [put_lit, put_none, List.set_cons_succ, List.set_cons_zero]
            apply Oblig.cons
            case h =>
              intro S w1 hwi hSi hd hcl
              apply StepOk.intro
              intro K hK
              have cb1 := hwi.2.1.k8
              have cb2 := hwi.2.2.1.k8
              go_simp
              apply hK
              · rfl
              · conv => (lhs; whnf)
              · exact hwi
            simp only [put_lit, put_none, List.set_cons_succ, List.set_cons_zero]
            apply Oblig.cons
            case h =>
              intro S w1 hwi hSi hd hcl
              apply StepOk.intro
              intro K hK
              have cb1 := hwi.2.1.k8
              have cb2 := hwi.2.2.1.k8
              go_simp
              apply hK
              · rfl
              · conv => (lhs; whnf)
              · exact hwi
            simp only [put_lit, put_none, List.set_cons_succ, List.set_cons_zero]
            apply Oblig.cons
            case h =>
              intro S w1 hwi hSi hd hcl
              apply StepOk.intro
              intro K hK
              have cb1 := hwi.2.1.k8
              have cb2 := hwi.2.2.1.k8
              go_simp
              apply hK
              · rfl
              · conv => (lhs; whnf)
              · exact hwi
            simp only [put_lit, put_none, List.set_cons_succ, List.set_cons_zero]
            apply Oblig.cons
            case h =>
              intro S w1 hwi hSi hd hcl
              apply StepOk.intro
              intro K hK
              have cb1 := hwi.2.1.k8
              have cb2 := hwi.2.2.1.k8
              go_simp
              apply hK
              · rfl
              · conv => (lhs; whnf)
              · exact hwi
            simp only [put_lit, put_none, List.set_cons_succ, List.set_cons_zero]
            apply Oblig.cons
            case h =>
              intro S w1 hwi hSi hd hcl
              apply StepOk.intro
              intro K hK
              have cb1 := hwi.2.1.k8
              have cb2 := hwi.2.2.1.k8
              go_simp
              apply hK
              · rfl
              · conv => (lhs; whnf)
              · exact hwi
            simp only [put_lit, put_none, List.set_cons_succ, List.set_cons_zero]
            apply Oblig.cons
            case h =>
              intro S w1 hwi hSi hd hcl
              apply StepOk.intro
              intro K hK
              have cb1 := hwi.2.1.k8
              have cb2 := hwi.2.2.1.k8
              go_simp
              refine (plan_Counter t' s g' l' r' k (some ⟨g1, 0, none⟩) P.length c1 (some ⟨g2, 0, none⟩) P.length c2 v _ hs.1 hs.2 (by omega) (by omega)).mono ?_
              rintro e w2 ⟨rfl, hk⟩
              apply hK
              · rfl
              · conv => (lhs; whnf)
              · exact ⟨Keep0.step hwi.1 hk, hk.blk hwi.2.1 (fun h => h), hk.blk hwi.2.2.1 (fun h => h), hwi.2.2.2.1.keep hk, hwi.2.2.2.2.keep hk⟩
            simp only [put_lit, put_none, List.set_cons_succ, List.set_cons_zero]
            apply Oblig.cons
            case h =>
              intro S w1 hwi hSi hd hcl
              apply StepOk.intro
              intro K hK
              have cb1 := hwi.2.1.k8
              have cb2 := hwi.2.2.1.k8
              go_simp
              apply hK
              · rfl
              · conv => (lhs; whnf)
              · exact hwi
            simp only [put_lit, put_none, List.set_cons_succ, List.set_cons_zero]
            apply Oblig.cons
            case h =>
              intro S w1 hwi hSi hd hcl
              apply StepOk.intro
              intro K hK
              have cb1 := hwi.2.1.k8
              have cb2 := hwi.2.2.1.k8
              go_simp
              apply hK
              · rfl
              · conv => (lhs; whnf)
              · exact hwi
            simp only [put_lit, put_none, List.set_cons_succ, List.set_cons_zero]
            apply Oblig.cons
            case h =>
              intro S w1 hwi hSi hd hcl
              apply StepOk.intro
              intro K hK
              have cb1 := hwi.2.1.k8
              have cb2 := hwi.2.2.1.k8
              go_simp
              refine (plan_Counter t s g l r k PA P.length pc LA L.length lc v _ hs.1 hs.2 (by omega) (by omega)).mono ?_
              rintro e w2 ⟨rfl, hk⟩
              apply hK
              · rfl
              · conv => (lhs; whnf)
              · exact ⟨Keep0.step hwi.1 hk, hk.blk hwi.2.1 (fun h => h), hk.blk hwi.2.2.1 (fun h => h), hwi.2.2.2.1.keep hk, hwi.2.2.2.2.keep hk⟩
            simp only [put_lit, put_none, List.set_cons_succ, List.set_cons_zero]
            apply Oblig.cons
            case h =>
              intro S w1 hwi hSi hd hcl
              apply StepOk.intro
              intro K hK
              have cb1 := hwi.2.1.k8
              have cb2 := hwi.2.2.1.k8
              go_simp
              apply hK
              · rfl
              · conv => (lhs; whnf)
              · exact hwi
            simp only [put_lit, put_none, List.set_cons_succ, List.set_cons_zero]
            apply Oblig.cons
            case h =>
              intro S w1 hwi hSi hd hcl
              apply StepOk.intro
              intro K hK
              have cb1 := hwi.2.1.k8
              have cb2 := hwi.2.2.1.k8
              go_simp
              apply hK
              · rfl
              · conv => (lhs; whnf)
              · exact hwi
            simp only [put_lit, put_none, List.set_cons_succ, List.set_cons_zero]
            apply Oblig.cons
            case h =>
              intro S w1 hwi hSi hd hcl
              apply StepOk.intro
              intro K hK
              have cb1 := hwi.2.1.k8
              have cb2 := hwi.2.2.1.k8
              go_simp
              apply hK
              · rfl
              · conv => (lhs; whnf)
              · exact hwi
            simp only [put_lit, put_none, List.set_cons_succ, List.set_cons_zero]
            apply Oblig.cons
            case h =>
              intro S w1 hwi hSi hd hcl
              apply StepOk.intro
              intro K hK
              have cb1 := hwi.2.1.k8
              have cb2 := hwi.2.2.1.k8
              go_simp
              apply hK
              · rfl
              · conv => (lhs; whnf)
              · exact hwi
            simp only [put_lit, put_none, List.set_cons_succ, List.set_cons_zero]
            apply Oblig.cons
            case h =>
              intro S w1 hwi hSi hd hcl
              apply StepOk.intro
              intro K hK
              have cb1 := hwi.2.1.k8
              have cb2 := hwi.2.2.1.k8
              go_simp
              refine (plan_Size t' s g' l' r' k (some ⟨g1, 0, none⟩) P.length c1 (some ⟨g2, 0, none⟩) P.length c2 _ hs.1 hs.2 (by omega) (by omega) (by omega)).mono ?_
              rintro e w2 ⟨rfl, hk⟩
              apply hK
              · rfl
              · conv => (lhs; whnf)
              · exact ⟨Keep0.step hwi.1 hk, hk.blk hwi.2.1 (fun h => h), hk.blk hwi.2.2.1 (fun h => h), hwi.2.2.2.1.keep hk, hwi.2.2.2.2.keep hk⟩
            simp only [put_lit, put_none, List.set_cons_succ, List.set_cons_zero]
            apply Oblig.cons
            case h =>
              intro S w1 hwi hSi hd hcl
              apply StepOk.intro
              intro K hK
              have cb1 := hwi.2.1.k8
              have cb2 := hwi.2.2.1.k8
              go_simp
              apply hK
              · rfl
              · conv => (lhs; whnf)
              · exact hwi
            simp only [put_lit, put_none, List.set_cons_succ, List.set_cons_zero]
            apply Oblig.cons
            case h =>
              intro S w1 hwi hSi hd hcl
              apply StepOk.intro
              intro K hK
              have cb1 := hwi.2.1.k8
              have cb2 := hwi.2.2.1.k8
              go_simp
              refine (plan_Size t s g l r k PA P.length pc LA L.length lc _ hs.1 hs.2 (by omega) (by omega) (by omega)).mono ?_
              rintro e w2 ⟨rfl, hk⟩
              apply hK
              · rfl
              · conv => (lhs; whnf)
              · exact ⟨Keep0.step hwi.1 hk, hk.blk hwi.2.1 (fun h => h), hk.blk hwi.2.2.1 (fun h => h), hwi.2.2.2.1.keep hk, hwi.2.2.2.2.keep hk⟩
            simp only [put_lit, put_none, List.set_cons_succ, List.set_cons_zero]
            apply Oblig.cons
            case h =>
              intro S w1 hwi hSi hd hcl
              apply StepOk.intro
              intro K hK
              have cb1 := hwi.2.1.k8
              have cb2 := hwi.2.2.1.k8
              go_simp
              apply hK
              · rfl
              · conv => (lhs; whnf)
              · exact hwi
            simp only [put_lit, put_none, List.set_cons_succ, List.set_cons_zero]
            apply Oblig.cons
            case h =>
              intro S w1 hwi hSi hd hcl
              apply StepOk.intro
              intro K hK
              have cb1 := hwi.2.1.k8
              have cb2 := hwi.2.2.1.k8
              go_simp
              apply hK
              · rfl
              · conv => (lhs; whnf)
              · exact hwi
            simp only [put_lit, put_none, List.set_cons_succ, List.set_cons_zero]
            apply Oblig.cons
            case h =>
              intro S w1 hwi hSi hd hcl
              apply StepOk.intro
              intro K hK
              have cb1 := hwi.2.1.k8
              have cb2 := hwi.2.2.1.k8
              go_simp
              apply hK
              · rfl
              · conv => (lhs; whnf)
              · exact hwi
            simp only [put_lit, put_none, List.set_cons_succ, List.set_cons_zero]
            exact Oblig.nil
          case h0 =>
            exact ⟨HK9.out.drew, HBR.out, HEE.out, HI1.out, HI2.out⟩
          case hend =>
            intro S wx hwi hall
            go_wp2_with fail
            go_ret
            exact ⟨rfl, hwi.1⟩
end Go.Proofs.Ytjpkepceenghcaa
