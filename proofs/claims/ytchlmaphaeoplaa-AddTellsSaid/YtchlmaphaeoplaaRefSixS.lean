/- breadlineref06: Step, New, Sum, and a machine that is played. -/
import Derived.Test.YtchlmaphaeoplaaRefSixB
import Derived.Test.YtchlmaphaeoplaaRefSixC
import Derived.Test.YtchlmaphaeoplaaRefPlaySix
import Derived.Test.YtchlmaphaeoplaaAddSum
namespace Go.Proofs.Ytchlmaphaeoplaa
open Go.RowKit
set_option linter.unusedVariables false
set_option linter.unusedSimpArgs false
set_option maxRecDepth 100000
section
variable {B : Nat} {w : World} {m y : Nat} {A : Option Addr} {ca : Nat} {lv : Value} {b s : Nat} {g d : Int}
theorem aNext_sp {t : AS} (h : AInv b s g d t) (hb : b ≤ 1000) (hs : t.sp ≤ 2000) : (aNext b s g d t).sp ≤ 2000 := by
  obtain ⟨W, L, st, x, lv, sp, w, v⟩ := t
  obtain ⟨ln, wl, s1, g1, d1, lw, xb, nx, lb, pb, vb, gr⟩ := h
  simp only at *
  have hs8 : 1 ≤ s ∧ s ≤ 8 := by unfold p2 at s1; omega
  have hm : ∀ u : AS, (aMiss s u).sp = u.sp := fun u => by unfold aMiss; split <;> rfl
  rcases st_cases nx with rfl | rfl | rfl | rfl | rfl | rfl | rfl | rfl | rfl | rfl
  · have h1 : 1 ≤ rd W (b + 3) := by have := lw.1; unfold p2 at this; omega
    have h3 := Int.emod_lt_of_pos x (show 0 < rd W (b + 3) by omega)
    show b + 4 + (x % rd W (b + 3)).toNat ≤ 2000
    have := lw.2
    omega
  · exact hs
  · by_cases hq : rd W sp = w
    · simpa [aNext, hq] using hs
    · simpa [aNext, hq, hm] using hs
  · exact hs
  · exact hs
  · exact hs
  · exact hs
  · simpa [aNext, hm] using hs
  · exact hs
  · rw [aNext_over rfl]; exact hs
set_option maxHeartbeats 1000000 in
theorem r6_Step (t : AS) (hm : RefAt B w m A ca lv t.W t.L) (hy : Blk w y 86 (rcs6 b s g d t)) (hi : AInv b s g d t) (hb0 : b ≤ 1000) (hsp : t.sp ≤ 2000) (hL : t.L.length ≤ 1000000000) :
    Calls Try.prog 39 #[ptr y, ptr m] w (R6P B w m A lv y b s g d (aNext b s g d t)) := by
  obtain ⟨W, L, st, x0, l6, sp, ww, vv⟩ := t
  obtain ⟨I, hI⟩ : ∃ I, I = sp - (b + 4) := ⟨_, rfl⟩
  have hs8 : 1 ≤ s ∧ s ≤ 8 := by have := hi.s1; unfold p2 at this; omega
  have hy2 : Blk w y 86 [i64 (b : Int), i64 (s : Int), i64 g, i64 d, i64 x0, i64 (st : Int), i64 l6, i64 (I : Int), i64 ww, i64 vv] := by rw [hI]; exact hy
  by_cases h09 : st = 0 ∨ st = 9
  · have hi2 : AInv b s g d ⟨W, L, st, x0, l6, b + 4 + I, ww, vv⟩ := ⟨hi.ln, hi.wl, hi.s1, hi.g1, hi.d1, hi.lw, hi.xb, hi.nx, hi.lb, fun h1 h2 => by have h1' : 1 ≤ st := h1; have h2' : st ≤ 8 := h2; omega, hi.vb, hi.gr⟩
    have hIb : I ≤ 2000 := by have : sp ≤ 2000 := hsp; omega
    rcases h09 with rfl | rfl
    · exact r6_step0 hm hy2 hi2 hb0 hIb hL
    · refine (r6_step9 hm hy2 hi2 hb0 hIb hL).mono ?_
      rw [aNext_over (t := ⟨W, L, 9, x0, l6, b + 4 + I, ww, vv⟩) rfl, aNext_over (t := ⟨W, L, 9, x0, l6, sp, ww, vv⟩) rfl]
      rintro e w' ⟨h1, A1, c1, lv1, h2, h3, h4⟩
      refine ⟨h1, A1, c1, lv1, h2, ?_, h4⟩
      simp only [rcs6, Nat.add_sub_cancel_left] at h3
      simp only [rcs6]
      rw [← hI]
      exact h3
  · have hn := hi.nx
    have hpb := hi.pb (by show 1 ≤ st; have : st ≤ 9 := hn; omega) (by show st ≤ 8; have : st ≤ 9 := hn; omega)
    simp only at hn hpb
    obtain rfl : sp = b + 4 + I := by omega
    have hIb : I ≤ 2000 := by omega
    have hst : st = 1 ∨ st = 2 ∨ st = 3 ∨ st = 4 ∨ st = 5 ∨ st = 6 ∨ st = 7 ∨ st = 8 := by omega
    rcases hst with rfl | rfl | rfl | rfl | rfl | rfl | rfl | rfl
    · exact r6_step1 hm hy2 hi hb0 hIb hL
    · exact r6_step2 hm hy2 hi hb0 hIb hL
    · exact r6_step3 hm hy2 hi hb0 hIb hL
    · exact r6_step4 hm hy2 hi hb0 hIb hL
    · exact r6_step5 hm hy2 hi hb0 hIb hL
    · exact r6_step6 hm hy2 hi hb0 hIb hL
    · exact r6_step7 hm hy2 hi hb0 hIb hL
    · exact r6_step8 hm hy2 hi hb0 hIb hL
/-- a new machine -/
theorem r6_New (b st g d : Int) (th : Nat) (w : World) (hth : th ≤ 1000) (x7 : Nat) (hx7 : (x7 : Int) = dBegin th) :
    Calls Try.prog 20 #[i64 b, i64 st, i64 g, i64 d, i64 (th : Int)] w fun e w' => ∃ y, e = .returned (ptr y) ∧ w.heap.size ≤ y ∧ Keep0 w w' ∧ Blk w' y 86 [i64 b, i64 st, i64 g, i64 d, i64 (x7 : Int), i64 0, i64 0, i64 0, i64 0, i64 0] := by
  have HB := hid (ref2_Begin th w (by omega))
  rw [← hx7] at HB
  clear hx7
  go_enter Try.func20, Try.ntmps20
  go_wp2_with fail
  refine HB.out.mono ?_
  rintro e w1 ⟨rfl, rfl⟩
  go_wp2_with fail
  go_ret
  exact ⟨w.heap.size, rfl, Nat.le_refl _, (Keep.refl _ _).alloc _, Blk.made rfl rfl⟩
/-- a counter's sum, as the document counts it -/
theorem r6_Sum (g n c : Nat) (W : List Int) (hI : Ints w g W) (hn : n = W.length) (hW : W.length ≤ 10000) (hin : b + 4 + s ≤ W.length) (hs1 : 1 ≤ s) :
    Calls Try.prog 25 #[.slice (some ⟨g, 0, none⟩) n c, i64 (b : Int), i64 (s : Int)] w (fun e w' => e = .returned (i64 (sumN W b s)) ∧ Keep0 w w') := by
  have HI := hid hI
  have c1 := hI.cell b (by omega)
  have z1 := hI.lt
  have hbn : (b : Int) < (n : Int) := by omega
  have hbs : b + 4 + s ≤ n ∧ n ≤ 10000 := by omega
  have HNW := hid hn
  have y1 : IntKind.i64.wrap ((b : Int) + 4) = (b : Int) + 4 := IntWalk.i64_in _ (by omega)
  clear hI hn hin hW
  go_enter Try.func25, Try.ntmps25
  go_wp2_with fail
  go_loopw [7, 8] (fun v7 v8 wr => ∃ i : Nat, i ≤ s ∧ v8 = .int .i64 i ∧ v7 = .int .i64 (sumN W b i) ∧ Keep0 w wr) (fun _ v _ => s - (intOf v).toNat)
  case atStart => exact ⟨0, Nat.zero_le _, rfl, rfl, Keep.refl _ _⟩
  case round =>
    obtain ⟨i, hi, rfl, rfl, hk⟩ := hrel
    have HK := hid hk
    have HIR := hid (hk.ints HI.out (fun h => h))
    clear hk
    by_cases hlt : i < s
    · have c1 := HIR.out.cell (b + 4 + i) (by have := HNW.out; omega)
      have z1 := HIR.out.lt
      have q1 : (0 : Int) ≤ (b : Int) + 4 + (i : Int) ∧ (b : Int) + 4 + (i : Int) < (n : Int) ∧ ((b : Int) + 4 + (i : Int)).toNat = b + 4 + i := by omega
      have q2 : IntKind.i64.wrap ((b : Int) + 4 + (i : Int)) = (b : Int) + 4 + (i : Int) := IntWalk.i64_in _ (by omega)
      have q5 : IntKind.i64.wrap ((i : Int) + 1) = (i : Int) + 1 := IntWalk.i64_in _ (by omega)
      have HN : Hid (sumN W b (i + 1) = wrap64 (sumN W b i + pVal (rd W (b + 4 + i)))) := hid rfl
      generalize sumN W b i = N at *
      generalize rd W (b + 4 + i) = yy at *
      have hy : IntKind.i64.wrap (N + pVal yy) = wrap64 (N + pVal yy) := by rw [IntKind.wrap_i64, wrap64]
      go_wp2_with fail
      refine (ref1_Value yy _).mono ?_
      rintro e w2 ⟨rfl, rfl⟩
      go_wp2_with fail
      go_roundw
      case rel => exact ⟨i + 1, by omega, by go_num, by rw [HN.out], HK.out⟩
      case measure => simp [intOf]; omega
    · obtain rfl : i = s := by omega
      go_wp2_with fail
      go_ret
      exact ⟨rfl, HK.out⟩
def RSys6 (B m y b s : Nat) (g d : Int) (len : Nat) (A0 : Option Addr) (lv0 : Value) (N : Nat) (k : Nat) (w : World) (t : AS) : Prop :=
  ∃ A1 c1 lv1, RefAt B w m A1 c1 lv1 t.W t.L ∧ Blk w y 86 (rcs6 b s g d t) ∧ (∀ c, (Value.slice A1 0 0).ownBlock = some c → (Value.slice A0 0 0).ownBlock = some c ∨ N ≤ c) ∧ (∀ c, lv1.ownBlock = some c → lv0.ownBlock = some c ∨ N ≤ c) ∧ t.W.length = len ∧ t.L.length ≤ k ∧ AInv b s g d t ∧ t.sp ≤ 2000 ∧ N ≤ w.heap.size
set_option maxHeartbeats 2000000 in
theorem play_r6 (t : AS) (K : List Pk) (A0 : Option Addr) (kb ko c most : Nat) (hm : RefAt B w m A ca lv t.W t.L) (hy : Blk w y 86 (rcs6 b s g d t)) (hi : AInv b s g d t) (hb0 : b ≤ 1000) (hsp : t.sp ≤ 2000) (hL : t.L = [])
    (hmost : most ≤ 1000) (hl : K.length ≤ 1000000) (hok : okPokesA b s K) (hA0 : 0 < K.length → A0 = some ⟨kb, ko, none⟩ ∧ kb < w.heap.size ∧ kb ≠ m ∧ kb ≠ y ∧ lv.ownBlock ≠ some kb)
    (hcells : ∀ i (h : i < K.length), w.cell? ⟨kb, ko + i * 3, none⟩ = some (i64 K[i].at_) ∧ w.cell? ⟨kb, ko + i * 3 + 1, none⟩ = some (i64 K[i].w) ∧ w.cell? ⟨kb, ko + i * 3 + 2, none⟩ = some (i64 K[i].x)) :
    Calls Try.prog 21 #[ptr m, ptr y, .slice A0 K.length c, i64 most] w fun e w' =>
      e = .returned (.tuple #[i64 (playF (aStp b s g d) aPk t.W.length K most 0 t).2.1, .bool (playF (aStp b s g d) aPk t.W.length K most 0 t).2.2]) ∧
      (∃ i, RSys6 B m y b s g d t.W.length A lv w.heap.size i w' (playF (aStp b s g d) aPk t.W.length K most 0 t).1) ∧ Keep (fun k => (k = m ∨ k = y ∨ lv.ownBlock = some k) ∨ w.heap.size ≤ k) w w' := by
  have hW : t.W.length ≤ 10000 := hi.wl
  refine ref6_Play (RSys6 B m y b s g d t.W.length A lv w.heap.size) (aStp b s g d) aPk t.W.length y m (fun k => k = m ∨ k = y ∨ lv.ownBlock = some k) w.heap.size K A0 kb ko c most w t (by omega) hl (by omega) (Nat.le_refl _) ?_ hcells ?_ ?_ ?_ ?_ ?_
  · intro h0
    obtain ⟨e, hb, hbm, hby, hbl⟩ := hA0 h0
    refine ⟨e, hb, ?_⟩
    rintro (h | h | h)
    · exact hbm h
    · exact hby h
    · exact hbl h
  · rintro i w1 x1 ⟨A1, c1, lv1, h1, _, _, _, hlen, _⟩
    exact ⟨A1, c1, lv1, by rw [← hlen]; exact h1.mem⟩
  · rintro i w1 w2 x1 ⟨A1, c1, lv1, h1, h2, h4, h5, h6, h7, h8, h10, h9⟩ hk
    exact ⟨A1, c1, lv1, h1.keep hk (fun _ _ h => h), hk.blk h2 (fun h => h), h4, h5, h6, h7, h8, h10, Nat.le_trans h9 hk.size⟩
  · rintro i w1 x1 j z ⟨p, hp, rfl, rfl⟩ ⟨A1, c1, lv1, h1, h2, h4, h5, h6, h7, h8, h10, h9⟩ hi0 hi1
    refine (ref_PokeP p.w p.x h1 hi0 (by rw [h6]; exact hi1) (by omega)).mono ?_
    rintro e w2 ⟨rfl, A2, c2, lv2, g1, g2, g3, g4⟩
    refine ⟨rfl, ⟨A2, c2, lv2, g1, g2.blk h2 (r6_far h1 h2), ?_, ?_, by simp [aPk, h6], h7, h8.poke _ _ (fun e => hok p hp (by omega)), h10, Nat.le_trans h9 g2.size⟩, g2.mono ?_⟩
    · intro b hb
      rcases g3 b hb with h | h
      · exact h4 b h
      · exact Or.inr (Nat.le_trans h9 h)
    · intro b hb
      rcases g4 b hb with h | h
      · exact h5 b h
      · exact Or.inr (Nat.le_trans h9 h)
    · rintro b (h | h)
      · exact Or.inl (Or.inl h)
      · rcases h5 b h with h | h
        · exact Or.inl (Or.inr (Or.inr h))
        · exact Or.inr h
  · rintro i w1 x1 hn ⟨A1, c1, lv1, h1, h2, h4, h5, h6, h7, h8, h10, h9⟩
    refine (r6_Step x1 h1 h2 h8 hb0 h10 (by omega)).mono ?_
    rintro e w2 ⟨rfl, A2, c2, lv2, g1, g2, g4, g5, g6⟩
    refine ⟨rfl, ⟨A2, c2, lv2, g1, g2, ?_, ?_, (aNext_len x1).trans h6, ?_, h8.step, aNext_sp h8 hb0 h10, Nat.le_trans h9 g4.size⟩, g4.mono ?_⟩
    · intro b hb
      rcases g5 b hb with h | h
      · exact h4 b h
      · exact Or.inr (Nat.le_trans h9 h)
    · intro b hb
      rcases g6 b hb with h | h
      · exact h5 b h
      · exact Or.inr (Nat.le_trans h9 h)
    · show (aNext b s g d x1).L.length ≤ _
      by_cases h77 : x1.st = 9
      · rw [aNext_over h77]; omega
      · rw [aNext_log x1 (by have := h8.nx; omega)]; omega
    · rintro b ((h | h) | h)
      · exact Or.inl (Or.inl h)
      · rcases h5 b h with h | h
        · exact Or.inl (Or.inr (Or.inr h))
        · exact Or.inr h
      · exact Or.inl (Or.inr (Or.inl h))
  · exact ⟨A, ca, lv, hm, hy, fun _ h => Or.inl h, fun _ h => Or.inl h, rfl, by rw [hL]; simp, hi, hsp, Nat.le_refl _⟩
end
end Go.Proofs.Ytchlmaphaeoplaa
