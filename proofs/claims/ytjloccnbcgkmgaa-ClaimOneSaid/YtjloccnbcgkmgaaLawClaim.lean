/- breadlinelaw11: Good, words; breadlinelaw08.Laid. -/
import Derived.Test.YtjloccnbcgkmgaaClaimU
import Derived.Test.YtjloccnbcgkmgaaLaw5
import Derived.Test.YtjloccnbcgkmgaaRefFresh
import Derived.Test.YtjloccnbcgkmgaaRow
import Derived.Test.YtjloccnbcgkmgaaGhost
namespace Go.Proofs.Ytjloccnbcgkmgaa
open Go.RowKit
set_option linter.unusedVariables false
set_option linter.unusedSimpArgs false
set_option maxRecDepth 100000
def good11 (t s g l r k : Int) (P L : List Int) (vn kn : Nat) : Bool := goodB t s g l r k P L && decide (vn ≤ 40) && decide (kn ≤ 40)
set_option maxHeartbeats 2000000 in
theorem law11_Good (t s g l r k : Int) (PA : Option Addr) (P : List Int) (pc : Nat) (LA : Option Addr) (L : List Int) (lc : Nat) (VA : Option Addr) (vn vc : Nat) (KA : Option Addr) (kn kc : Nat) (w : World) (hP : IntsAt w PA P) (hL : IntsAt w LA L) (h1 : P.length ≤ 9223372036854775807) (h2 : L.length ≤ 9223372036854775807) :
    Calls Try.prog 10 #[.agg #[i64 t, i64 s, i64 g, i64 l, i64 r, i64 k, .slice PA P.length pc, .slice LA L.length lc], .slice VA vn vc, .slice KA kn kc] w (Ret (.bool (good11 t s g l r k P L vn kn)) w) := by
  cases hg : greatB P.length L.length
  · have hb : P.length ≤ 100 ∧ L.length ≤ 100 := by simp [greatB] at hg; omega
    have HR : ∀ w', Keep0 w w' → Calls Try.prog 34 #[.agg #[i64 t, i64 s, i64 g, i64 l, i64 r, i64 k, .slice PA P.length pc, .slice LA L.length lc]] w' (Ret (.bool (rightB t s g l r k P L)) w') := by
      intro w' hk
      cases hh : headB t s g l r k P.length L.length
      · exact ref_Right_no _ _ _ _ _ _ _ _ _ _ _ _ _ (by omega) (by omega) hh
      · exact ref_Right_yes _ _ _ _ _ _ _ _ _ _ _ _ _ (hP.keep hk) (hL.keep hk) (by omega) (by omega) hh
    have HG := hid hg
    cases hr : rightB t s g l r k P L
    · have e : good11 t s g l r k P L vn kn = false := by simp [good11, goodB, hr]
      rw [hr] at HR
      have HRR := hid HR
      rw [e]
      clear hg e HR hP hL hr
      go_enter Try.func10, Try.ntmps10
      go_wp2_with fail
      refine (law_Great _ _ _ _ _ _ _ _ _ _ _ _ _ h1 h2).mono ?_
      rintro e w1 ⟨rfl, hk⟩
      rw [HG.out]
      have HK1 : Hid (Keep0 w w1) := hid (Keep0.step (by repeat (with_reducible first | exact Keep.refl _ _ | apply Keep.alloc | apply Keep.drewN | apply Keep.drew)) hk)
      have HB := (hk.blk (Blk.made (b := w.heap.size) (w := w) (t := 24) (cs := [i64 t, i64 s, i64 g, i64 l, i64 r, i64 k, .slice PA P.length pc, .slice LA L.length lc]) rfl rfl) (fun h => h)).k8
      clear hk
      go_wp2_with fail
      refine (HRR.out _ HK1.out).mono ?_
      rintro e w2 ⟨rfl, hk⟩
      have HK2 : Hid (Keep0 w w2) := hid (Keep0.step HK1.out hk)
      clear hk
      go_wp2_with fail
      go_ret
      exact ⟨rfl, HK2.out⟩
    · rw [hr] at HR
      have HRR := hid HR
      by_cases c1 : vn ≤ 40
      · have e : good11 t s g l r k P L vn kn = decide (kn ≤ 40) := by simp [good11, goodB, hr, hg, c1]
        have g1 : decide ((vn : Int) ≤ 40) = true := decide_eq_true (by omega)
        have g2 : decide ((kn : Int) ≤ 40) = decide (kn ≤ 40) := by by_cases h : kn ≤ 40 <;> simp [h] <;> omega
        rw [e]
        clear hg e HR hP hL hr c1
        generalize decide (kn ≤ 40) = bk at *
        go_enter Try.func10, Try.ntmps10
        go_wp2_with fail
        refine (law_Great _ _ _ _ _ _ _ _ _ _ _ _ _ h1 h2).mono ?_
        rintro e w1 ⟨rfl, hk⟩
        rw [HG.out]
        have HK1 : Hid (Keep0 w w1) := hid (Keep0.step (by repeat (with_reducible first | exact Keep.refl _ _ | apply Keep.alloc | apply Keep.drewN | apply Keep.drew)) hk)
        have HB := (hk.blk (Blk.made (b := w.heap.size) (w := w) (t := 24) (cs := [i64 t, i64 s, i64 g, i64 l, i64 r, i64 k, .slice PA P.length pc, .slice LA L.length lc]) rfl rfl) (fun h => h)).k8
        clear hk
        go_wp2_with fail
        refine (HRR.out _ HK1.out).mono ?_
        rintro e w2 ⟨rfl, hk⟩
        have HK2 : Hid (Keep0 w w2) := hid (Keep0.step HK1.out hk)
        clear hk
        go_wp2_with fail
        go_ret
        exact ⟨rfl, HK2.out⟩
      · have e : good11 t s g l r k P L vn kn = false := by simp [good11, c1]
        have g1 : decide ((vn : Int) ≤ 40) = false := decide_eq_false (by omega)
        rw [e]
        clear hg e HR hP hL hr c1
        go_enter Try.func10, Try.ntmps10
        go_wp2_with fail
        refine (law_Great _ _ _ _ _ _ _ _ _ _ _ _ _ h1 h2).mono ?_
        rintro e w1 ⟨rfl, hk⟩
        rw [HG.out]
        have HK1 : Hid (Keep0 w w1) := hid (Keep0.step (by repeat (with_reducible first | exact Keep.refl _ _ | apply Keep.alloc | apply Keep.drewN | apply Keep.drew)) hk)
        have HB := (hk.blk (Blk.made (b := w.heap.size) (w := w) (t := 24) (cs := [i64 t, i64 s, i64 g, i64 l, i64 r, i64 k, .slice PA P.length pc, .slice LA L.length lc]) rfl rfl) (fun h => h)).k8
        clear hk
        go_wp2_with fail
        refine (HRR.out _ HK1.out).mono ?_
        rintro e w2 ⟨rfl, hk⟩
        have HK2 : Hid (Keep0 w w2) := hid (Keep0.step HK1.out hk)
        clear hk
        go_wp2_with fail
        go_ret
        exact ⟨rfl, HK2.out⟩
  · have e : good11 t s g l r k P L vn kn = false := by simp [good11, goodB, hg]
    rw [e]
    have HG := hid hg
    clear hg e hP hL
    go_enter Try.func10, Try.ntmps10
    go_wp2_with fail
    refine (law_Great _ _ _ _ _ _ _ _ _ _ _ _ _ h1 h2).mono ?_
    rintro e w1 ⟨rfl, hk⟩
    rw [HG.out]
    have HK1 : Hid (Keep0 w w1) := hid (Keep0.step (by repeat (with_reducible first | exact Keep.refl _ _ | apply Keep.alloc | apply Keep.drewN | apply Keep.drew)) hk)
    clear hk
    go_wp2_with fail
    go_ret
    exact ⟨rfl, HK1.out⟩
theorem take_pad (W : List Int) (n i : Nat) (hn : n = W.length) (h : i < n) : (W.take i ++ List.replicate (n - i) 0).set i (rd W i) = W.take (i + 1) ++ List.replicate (n - (i + 1)) 0 := by
  subst hn
  have e : W[i]? = some (rd W i) := by simp [rd, h]
  rw [List.set_append_right _ _ (by rw [List.length_take]; omega), List.length_take, Nat.min_eq_left (by omega), Nat.sub_self, List.take_add_one, e, show W.length - i = (W.length - (i + 1)) + 1 from by omega, List.replicate_succ]
  simp
set_option maxHeartbeats 2000000 in
theorem law8_Laid (B : Nat) (w : World) (A : Option Addr) (c : Nat) (W : List Int) (hW : IntsAt w A W) (h1 : W.length ≤ 10000) (hB : B ≤ w.heap.size) :
    Calls Try.prog 12 #[.slice A W.length c] w fun e w' => ∃ m a lv, e = .returned (ptr m) ∧ MemAt B w' m a lv W [] ∧ Keep0 w w' ∧ w.heap.size ≤ m ∧ w.heap.size ≤ a := by
  have HW := hid hW
  clear hW
  go_enter Try.func12, Try.ntmps12
  go_wp2_with fail
  refine (mem_New B W.length _ hB (by omega) (by omega)).mono ?_
  rintro e w1 ⟨m, a, lv, rfl, hm, hk, hzm, hza⟩
  rw [Int.toNat_natCast] at hm
  have HM1 := hid hm
  have HK1 : Hid (Keep0 w w1) := hid hk
  clear hm hk
  go_wp2_with fail
  go_loopw [4] (fun v wr => ∃ i : Nat, i ≤ W.length ∧ v = .int .i64 i ∧ MemAt B wr m a lv (W.take i ++ List.replicate (W.length - i) 0) [] ∧ Keep0 w wr) (fun v _ => W.length - (intOf v).toNat)
  case atStart => exact ⟨0, Nat.zero_le _, rfl, by simpa using HM1.out, HK1.out⟩
  case round =>
    obtain ⟨i, hi, rfl, hm, hk⟩ := hrel
    clear HM1 HK1
    have HM := hid hm
    have HK := hid hk
    clear hm hk
    by_cases hlt : i < W.length
    · obtain ⟨b, o, rfl, hc⟩ := (HW.out.keep HK.out).cell (by omega)
      have c1 := hc i hlt
      have z1 := World.block_lt_of_cell? _ _ c1
      simp only at z1
      have hx := take_pad W W.length i rfl hlt
      have HX := hid hx
      clear hc hx
      go_wp2_with fail
      refine (mem_Poke i (rd W i) HM.out (by omega) (by simp; omega)).mono ?_
      rintro e w2 ⟨rfl, hm, hk⟩
      rw [Int.toNat_natCast, HX.out] at hm
      have HM2 := hid hm
      have HK2 : Hid (Keep0 w w2) := hid (keep_far11 HK.out hk (fun k e => by have e' : k = a := e; omega))
      clear hm hk c1
      go_wp2_with fail
      go_roundw
      case rel => exact ⟨i + 1, by omega, by go_num, HM2.out, HK2.out⟩
      case measure => simp [intOf]; omega
    · obtain rfl : i = W.length := by omega
      have hm := HM.out
      rw [List.take_of_length_le (Nat.le_refl _), Nat.sub_self] at hm
      simp only [List.replicate_zero, List.append_nil] at hm
      have HM2 := hid hm
      clear hm
      go_wp2_with fail
      go_ret
      exact ⟨m, a, lv, rfl, HM2.out, HK.out, hzm, hza⟩

/-- fresh words, with tickets' states as is said -/
def tkW (q : Nat) (V : List Int) : Nat → List Int → List Int
  | 0, W => W
  | i + 1, W => (tkW q V i W).set (q + 2 * i) (rd V i)
theorem tkW_length (q : Nat) (V : List Int) : ∀ i W, (tkW q V i W).length = W.length := by
  intro i
  induction i with
  | zero => intro W; rfl
  | succ i ih => intro W; simp [tkW, ih]
def words11 (s : Int) (K : Nat) (pn q : Nat) (L V : List Int) : List Int := tkW q V (min V.length K) (freshW s (K : Int) pn L)
set_option maxHeartbeats 4000000 in
theorem law11_words (t s g l r : Int) (K q : Nat) (PA : Option Addr) (P : List Int) (pc : Nat) (LA : Option Addr) (L : List Int) (lc : Nat) (VA : Option Addr) (V : List Int) (vc : Nat) (w : World) (hL : IntsAt w LA L) (hV : IntsAt w VA V) (hR : Right t s g l r (K : Int) P L) (hq : (q : Int) = P.length * (6 + 2 * s)) (hv : V.length ≤ 40) :
    Calls Try.prog 11 #[.agg #[i64 t, i64 s, i64 g, i64 l, i64 r, i64 (K : Int), .slice PA P.length pc, .slice LA L.length lc], .slice VA V.length vc] w fun e w' => ∃ A c', e = .returned (.slice A (words11 s K P.length q L V).length c') ∧
      w'.ownsRow w.heap.size 3 1 (.slice A (words11 s K P.length q L V).length c') (words11 s K P.length q L V).length (ints (words11 s K P.length q L V)) ∧ Keep0 w w' := by
  have hp := hR.p
  have hs := hR.sb
  have hk := hR.k
  have hlen := hR.len
  obtain ⟨lb, lo, rfl, hlc⟩ := hL.cell (by omega)
  have HLC := hid hlc
  have hlz := World.block_lt_of_cell? _ _ (hlc 0 (by omega))
  simp only at hlz
  have hfl := freshW_length s (K : Int) P.length L
  have hF1 : (freshW s (K : Int) P.length L).length = q + 2 * K := by rw [hfl]; omega
  have hm4 := mul_bd 12 22 (show (0 : Int) ≤ P.length by omega) (by omega) (show 0 ≤ 6 + 2 * s by omega) (by omega)
  have hq0 : q ≤ 264 := by omega
  have HQ := hid hq
  have HW : Hid (words11 s K P.length q L V = tkW q V (min V.length K) (freshW s (K : Int) P.length L)) := hid rfl
  have HFR := hid (fun w' hB hL2 hb => ref_Fresh w.heap.size w' lb lo t s g l r (K : Int) PA P.length pc L.length lc L hB hs.1 hs.2 (by omega) (by omega) (by omega) (by omega) hL2 hb)
  have HTK := hid (fun (i : Nat) (hi : i < K) (w' : World) => ref_Ticket t s g l r (K : Int) PA P.length pc (some ⟨lb, lo, none⟩) L.length lc (i : Int) w' hs.1 hs.2 (by omega) (by omega) (by omega))
  generalize words11 s K P.length q L V = WW at *
  generalize freshW s (K : Int) P.length L = FF at *
  have HB : Hid (Blk (w.alloc (.cells #[i64 t, i64 s, i64 g, i64 l, i64 r, i64 (K : Int), .slice PA P.length pc, .slice (some ⟨lb, lo, none⟩) L.length lc] 24)) w.heap.size 24 [i64 t, i64 s, i64 g, i64 l, i64 r, i64 (K : Int), .slice PA P.length pc, .slice (some ⟨lb, lo, none⟩) L.length lc]) := hid (Blk.made rfl rfl)
  have HK0 : Hid (Keep0 w (w.alloc (.cells #[i64 t, i64 s, i64 g, i64 l, i64 r, i64 (K : Int), .slice PA P.length pc, .slice (some ⟨lb, lo, none⟩) L.length lc] 24))) := hid ((Keep.refl _ _).alloc _)
  have HV := hid hV
  have hPL : P.length ≤ L.length := by omega
  clear hL hV hR hlc hfl hq hm4 hlen
  go_enter Try.func11, Try.ntmps11
  go_wp2_with fail
  refine (HFR.out _ (by simp) (fun i hi => (cell_old HK0.out hlz (fun h => h) _).trans (HLC.out i (by omega))) (Nat.lt_of_lt_of_le hlz HK0.out.size)).mono ?_
  rintro e w2 ⟨m, rfl, hm, hk2, hzm⟩
  have HB2 := hid (hk2.blk HB.out (fun h => h))
  have HK2 : Hid (Keep0 w w2) := hid (Keep0.step HK0.out hk2)
  have HM2 := hid hm
  have qb2 := HB2.out.k8
  have hcm : w.heap.size ≠ m := by have := HB.out.lt; omega
  have hwm : w.heap.size ≤ m := Nat.le_trans HK0.out.size hzm
  clear hk2 hm HB HK0 HFR
  go_wp2_with fail
  go_loopw [6] (fun v wr => ∃ i : Nat, i ≤ min V.length K ∧ v = .int .i64 i ∧ RefOK w.heap.size wr m (.slice none 0 0) (tkW q V i FF) [] ∧ Keep (fun k => k = m) w2 wr) (fun v _ => min V.length K - (intOf v).toNat)
  case atStart => exact ⟨0, Nat.zero_le _, rfl, HM2.out, Keep.refl _ _⟩
  case round =>
    obtain ⟨i, hi, rfl, hm, hk⟩ := hrel
    clear HM2 qb2
    have HMR := hid hm
    have HKR := hid hk
    have HBR := hid (hk.blk HB2.out hcm)
    have qbr := HBR.out.k8
    clear hm hk
    by_cases hlt : i < min V.length K
    · have g1 : decide ((i : Int) < (V.length : Int)) = true := decide_eq_true (by omega)
      have g2 : decide ((i : Int) < (K : Int)) = true := decide_eq_true (by omega)
      obtain ⟨vb, vo, rfl, hvc⟩ := HV.out.cell (by omega)
      have hvlt := World.block_lt_of_cell? _ _ (hvc i (by omega))
      simp only at hvlt
      have hvm : ¬ vb = m := by omega
      have HV1 : Hid (wr.cell? ⟨vb, vo + i, none⟩ = some (i64 (rd V i))) := hid ((cell_old HKR.out (Nat.lt_of_lt_of_le hvlt HK2.out.size) hvm _).trans ((cell_old HK2.out hvlt (fun h => h) _).trans (hvc i (by omega))))
      have HVX : Hid (tkW q V (i + 1) FF = (tkW q V i FF).set (q + 2 * i) (rd V i)) := hid rfl
      have htl := tkW_length q V i FF
      have HTK := hid (HTK.out i (by omega))
      rw [← HQ.out, show (q : Int) + 2 * (i : Int) = ((q + 2 * i : Nat) : Int) by push_cast; rfl] at HTK
      generalize tkW q V i FF = W1 at *
      have hil : i < V.length := by omega
      clear hvc
      go_wp2_with fail
      apply wp_region_text (WI := fun S wx => Keep (fun k => k = m) wr wx ∧ (S 8 = false → RefOK w.heap.size wx m (.slice none 0 0) W1 []) ∧ (S 8 = true → RefOK w.heap.size wx m (.slice none 0 0) (W1.set (q + 2 * i) (rd V i)) [])) (by kernel_rfl) (by kernel_rfl)
      case hob =>
        apply Oblig.cons
        case h =>
          intro S w1 hwi hSi hd hcl
          apply StepOk.intro
          intro K hK
          have cb := (hwi.1.blk HBR.out hcm).k8
          have qv := (cell_old hwi.1 (World.block_lt_of_cell? _ _ HV1.out) hvm _).trans HV1.out
          go_simp
          apply hK
          · rfl
          · conv => (lhs; whnf)
          · exact hwi
        simp only [put_lit, put_none]
        try dsimp only [List.set_cons_succ, List.set_cons_zero]
        apply Oblig.cons
        case h =>
          intro S w1 hwi hSi hd hcl
          apply StepOk.intro
          intro K hK
          have cb := (hwi.1.blk HBR.out hcm).k8
          have qv := (cell_old hwi.1 (World.block_lt_of_cell? _ _ HV1.out) hvm _).trans HV1.out
          go_simp
          apply hK
          · rfl
          · conv => (lhs; whnf)
          · exact hwi
        simp only [put_lit, put_none]
        try dsimp only [List.set_cons_succ, List.set_cons_zero]
        apply Oblig.cons
        case h =>
          intro S w1 hwi hSi hd hcl
          apply StepOk.intro
          intro K hK
          have cb := (hwi.1.blk HBR.out hcm).k8
          have qv := (cell_old hwi.1 (World.block_lt_of_cell? _ _ HV1.out) hvm _).trans HV1.out
          go_simp
          apply hK
          · rfl
          · conv => (lhs; whnf)
          · exact hwi
        simp only [put_lit, put_none]
        try dsimp only [List.set_cons_succ, List.set_cons_zero]
        apply Oblig.cons
        case h =>
          intro S w1 hwi hSi hd hcl
          apply StepOk.intro
          intro K hK
          have cb := (hwi.1.blk HBR.out hcm).k8
          have qv := (cell_old hwi.1 (World.block_lt_of_cell? _ _ HV1.out) hvm _).trans HV1.out
          go_simp
          refine (HTK.out _).mono ?_
          rintro e w2 ⟨rfl, hk⟩
          apply hK
          · rfl
          · conv => (lhs; whnf)
          · exact ⟨hwi.1.trans (hk.to (S := fun k => k = m)) (fun _ _ h => h), fun h => (hwi.2.1 h).same hk, fun h => (hwi.2.2 h).same hk⟩
        simp only [put_lit, put_none]
        try dsimp only [List.set_cons_succ, List.set_cons_zero]
        apply Oblig.cons
        case h =>
          intro S w1 hwi hSi hd hcl
          apply StepOk.intro
          intro K hK
          have cb := (hwi.1.blk HBR.out hcm).k8
          have qv := (cell_old hwi.1 (World.block_lt_of_cell? _ _ HV1.out) hvm _).trans HV1.out
          go_simp
          apply hK
          · rfl
          · conv => (lhs; whnf)
          · exact hwi
        simp only [put_lit, put_none]
        try dsimp only [List.set_cons_succ, List.set_cons_zero]
        apply Oblig.cons
        case h =>
          intro S w1 hwi hSi hd hcl
          apply StepOk.intro
          intro K hK
          have cb := (hwi.1.blk HBR.out hcm).k8
          have qv := (cell_old hwi.1 (World.block_lt_of_cell? _ _ HV1.out) hvm _).trans HV1.out
          go_simp
          apply hK
          · rfl
          · conv => (lhs; whnf)
          · exact hwi
        simp only [put_lit, put_none]
        try dsimp only [List.set_cons_succ, List.set_cons_zero]
        apply Oblig.cons
        case h =>
          intro S w1 hwi hSi hd hcl
          apply StepOk.intro
          intro K hK
          have cb := (hwi.1.blk HBR.out hcm).k8
          have qv := (cell_old hwi.1 (World.block_lt_of_cell? _ _ HV1.out) hvm _).trans HV1.out
          go_simp
          apply hK
          · rfl
          · conv => (lhs; whnf)
          · exact hwi
        simp only [put_lit, put_none]
        try dsimp only [List.set_cons_succ, List.set_cons_zero]
        apply Oblig.cons
        case h =>
          intro S w1 hwi hSi hd hcl
          apply StepOk.intro
          intro K hK
          have cb := (hwi.1.blk HBR.out hcm).k8
          have qv := (cell_old hwi.1 (World.block_lt_of_cell? _ _ HV1.out) hvm _).trans HV1.out
          go_simp
          apply hK
          · rfl
          · conv => (lhs; whnf)
          · exact hwi
        simp only [put_lit, put_none]
        try dsimp only [List.set_cons_succ, List.set_cons_zero]
        apply Oblig.cons
        case h =>
          intro S w1 hwi hSi hd hcl
          apply StepOk.intro
          intro K hK
          have cb := (hwi.1.blk HBR.out hcm).k8
          have qv := (cell_old hwi.1 (World.block_lt_of_cell? _ _ HV1.out) hvm _).trans HV1.out
          go_simp
          refine (show Calls Try.prog 36 #[ptr m, i64 ((q + 2 * i : Nat) : Int), i64 (rd V i)] w1 (fun e w' => e = .returned (.tuple #[]) ∧ RefOK w.heap.size w' m (.slice none 0 0) (W1.set (q + 2 * i) (rd V i)) [] ∧ Keep (fun k => k = m) w1 w') from by have h := ref_Poke' w.heap.size w1 m _ _ _ ((q + 2 * i : Nat) : Int) (rd V i) (hwi.2.1 hSi) (by omega) (by omega) (by omega); rw [Int.toNat_natCast] at h; exact h).mono ?_
          rintro e w2 ⟨rfl, hm2, hk2⟩
          apply hK
          · rfl
          · conv => (lhs; whnf)
          · exact ⟨hwi.1.trans hk2 (fun _ _ h => h), fun h => by simp [upd] at h, fun _ => hm2⟩
        simp only [put_lit, put_none]
        try dsimp only [List.set_cons_succ, List.set_cons_zero]
        exact Oblig.nil
      case h0 =>
        exact ⟨(Keep.refl _ _).drew, fun _ => HMR.out.same (Keep.refl _ _).drew, fun h => by cases h⟩
      case hend =>
        intro S wx hwi hall
        have HM4 := hid (hwi.2.2 (hall 8 (by decide)))
        have HK4 := hid (HKR.out.trans hwi.1 (fun _ _ h => h))
        clear hwi hall
        go_wp2_with fail
        go_roundw
        case rel => exact ⟨i + 1, by omega, by go_num, by rw [HVX.out]; exact HM4.out, HK4.out⟩
        case measure => simp [intOf]; omega
    · obtain rfl : i = min V.length K := by omega
      rw [← HW.out] at HMR
      obtain ⟨A, c, hr⟩ := HMR.out
      have HR2 := hid hr
      have qm := hr.mem.k2
      have HKE : Hid (Keep0 w wr) := hid (keep_far11 HK2.out HKR.out (fun k e => by have e' : k = m := e; omega))
      by_cases h1 : V.length ≤ K
      · have g1 : decide (((min V.length K : Nat) : Int) < (V.length : Int)) = false := decide_eq_false (by omega)
        clear hr HMR
        go_wp2_with fail
        go_ret
        exact ⟨A, c, rfl, HR2.out.words, HKE.out⟩
      · have g1 : decide (((min V.length K : Nat) : Int) < (V.length : Int)) = true := decide_eq_true (by omega)
        have g2 : decide (((min V.length K : Nat) : Int) < (K : Int)) = false := decide_eq_false (by omega)
        clear hr HMR
        go_wp2_with fail
        go_ret
        exact ⟨A, c, rfl, HR2.out.words, HKE.out⟩
end Go.Proofs.Ytjloccnbcgkmgaa
