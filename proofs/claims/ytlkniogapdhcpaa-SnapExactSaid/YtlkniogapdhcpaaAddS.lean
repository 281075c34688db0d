/- package add: a machine's state, Step, and a machine that is played. -/
import Derived.Test.YtlkniogapdhcpaaAddP
import Derived.Test.YtlkniogapdhcpaaAddB
import Derived.Test.YtlkniogapdhcpaaAddC
namespace Go.Proofs.Ytlkniogapdhcpaa
open Go.RowKit
set_option linter.unusedVariables false
set_option linter.unusedSimpArgs false
set_option maxRecDepth 100000

/-- the function that is next, by the stage -/
def aFn : Nat → Value
  | 0 => .func (.func 42) #[] #[]
  | 1 => .func (.func 54) #[] #[]
  | 2 => .func (.func 58) #[] #[]
  | 3 => .func (.func 59) #[] #[]
  | 4 => .func (.func 64) #[] #[]
  | 5 => .func (.func 70) #[] #[]
  | 6 => .func (.func 75) #[] #[]
  | 7 => .func (.func 71) #[] #[]
  | 8 => .func (.func 67) #[] #[]
  | _ => .nilFunc
theorem callF_abegin (args : Array Value) (w : World) : (callFunc 42 args).run Try.prog w = .ok (.enter 42 args) w := by go_simp
theorem callF_alook (args : Array Value) (w : World) : (callFunc 54 args).run Try.prog w = .ok (.enter 54 args) w := by go_simp
theorem callF_akeep (args : Array Value) (w : World) : (callFunc 58 args).run Try.prog w = .ok (.enter 58 args) w := by go_simp
theorem callF_aopen (args : Array Value) (w : World) : (callFunc 59 args).run Try.prog w = .ok (.enter 59 args) w := by go_simp
theorem callF_aempty (args : Array Value) (w : World) : (callFunc 64 args).run Try.prog w = .ok (.enter 64 args) w := by go_simp
theorem callF_aflush (args : Array Value) (w : World) : (callFunc 70 args).run Try.prog w = .ok (.enter 70 args) w := by go_simp
theorem callF_aclose (args : Array Value) (w : World) : (callFunc 75 args).run Try.prog w = .ok (.enter 75 args) w := by go_simp
theorem callF_aundo (args : Array Value) (w : World) : (callFunc 71 args).run Try.prog w = .ok (.enter 71 args) w := by go_simp
theorem callF_agrow (args : Array Value) (w : World) : (callFunc 67 args).run Try.prog w = .ok (.enter 67 args) w := by go_simp
theorem callF_aStep (args : Array Value) (w : World) : (callFunc 28 args).run Try.prog w = .ok (.enter 28 args) w := by go_simp
theorem meth_aStep (x : Nat) (w : World) : (method 235 64 (ptr x) "Step").run Try.prog w = .ok (28, ptr x) w := by kernel_rfl
/-- a machine's cells, from its state -/
def acs (b s : Nat) (g d : Int) (t : AS) : List Value := [i64 (b : Int), i64 (s : Int), i64 g, i64 d, i64 t.x, i64 t.lv, i64 (t.sp : Int), i64 t.w, i64 t.v, aFn t.st]

section
variable {B : Nat} {w : World} {m a x : Nat} {lv : Value} {b s : Nat} {g d : Int}
def AdQ (B : Nat) (w : World) (m a : Nat) (lv : Value) (x b s : Nat) (g d : Int) (t : AS) (w' : World) : Prop :=
  ∃ lv', MemAt B w' m a lv' t.W t.L ∧ Blk w' x 95 (acs b s g d t) ∧ Keep (fun k => MF m a lv k ∨ k = x) w w' ∧ (∀ k, lv'.ownBlock = some k → lv.ownBlock = some k ∨ w.heap.size ≤ k)
set_option maxHeartbeats 4000000 in
theorem addS_Step (t : AS) (hm : MemAt B w m a lv t.W t.L) (hx : Blk w x 95 (acs b s g d t)) (hi : AInv b s g d t) (hL : t.L.length ≤ 1000000000) :
    Calls Try.prog 28 #[ptr x, ptr m] w fun e w' => e = .returned (.bool (aStp b s g d t).2) ∧ AdQ B w m a lv x b s g d (aStp b s g d t).1 w' := by
  obtain ⟨W, L, st, x0, l6, sp, ww, vv⟩ := t
  obtain ⟨ln, wl, s1, g1, d1, lw, xb, nx, lb, pb, vb, gr⟩ := hi
  simp only at *
  have hs8 : 1 ≤ s ∧ s ≤ 8 := by unfold p2 at s1; omega
  rcases st_cases nx with rfl | rfl | rfl | rfl | rfl | rfl | rfl | rfl | rfl | rfl
  · obtain ⟨x7, rfl⟩ := Int.eq_ofNat_of_zero_le xb.1
    have hx1 : Blk w x 95 [i64 (b : Int), i64 (s : Int), i64 g, i64 d, i64 (x7 : Int), i64 l6, i64 (sp : Int), i64 ww, i64 vv, .func (.func 42) #[] #[]] := hx
    clear hx
    have hx := hx1
    clear hx1
    have hl1 : 1 ≤ rd W (b + 3) ∧ rd W (b + 3) ≤ 8 := by unfold p2 at lw; omega
    have h2 := Int.emod_nonneg (x7 : Int) (show rd W (b + 3) ≠ 0 by omega)
    obtain ⟨s7, hs7⟩ : ∃ s7 : Nat, s7 = b + 4 + ((x7 : Int) % rd W (b + 3)).toNat := ⟨_, rfl⟩
    have e1 : aNext b s g d ⟨W, L, 0, (x7 : Int), l6, sp, ww, vv⟩ = ⟨W, L ++ [⟨1, (b + 3 : Nat), rd W (b + 3), 0, false⟩], 1, (x7 : Int), rd W (b + 3), s7, ww, vv⟩ := by rw [hs7]; rfl
    show Calls _ _ _ _ (fun e w' => e = .returned (.bool (decide ((aNext b s g d ⟨W, L, 0, (x7 : Int), l6, sp, ww, vv⟩).st = 9))) ∧ AdQ B w m a lv x b s g d (aNext b s g d ⟨W, L, 0, (x7 : Int), l6, sp, ww, vv⟩) w')
    rw [e1]
    refine (add_Step 42 ((x7 : Int)) (rd W (b + 3)) (((s7 : Nat) : Int)) (ww) (vv) (.func (.func 54) #[] #[]) (W) (L ++ [⟨1, (b + 3 : Nat), rd W (b + 3), 0, false⟩]) false (Or.inr ⟨_, rfl, rfl⟩) hm hx callF_abegin (add_begin (b + 3) s7 x7 hm hx (by omega) (by omega) hL wl (rd W (b + 3)) rfl (by omega) (by omega) (by omega) (by omega))).mono ?_
    rintro e w' ⟨rfl, lv', h1, h2, h3, h4⟩
    exact ⟨rfl, lv', h1, h2, h3, h4⟩
  · have pb' := pb (by omega) (by omega)
    have hx1 : Blk w x 95 [i64 (b : Int), i64 (s : Int), i64 g, i64 d, i64 x0, i64 l6, i64 (sp : Int), i64 ww, i64 vv, .func (.func 54) #[] #[]] := hx
    clear hx
    have hx := hx1
    clear hx1
    by_cases hc : max (pVal (rd W sp) + d) (-(pVal (rd W sp) + d)) < g
    · have e1 : aNext b s g d ⟨W, L, 1, x0, l6, sp, ww, vv⟩ = ⟨W, L ++ [⟨1, sp, rd W sp, 0, false⟩], 2, x0, l6, sp, rd W sp, pVal (rd W sp) + d⟩ := by simp only [aNext]; rw [if_pos hc]
      show Calls _ _ _ _ (fun e w' => e = .returned (.bool (decide ((aNext b s g d ⟨W, L, 1, x0, l6, sp, ww, vv⟩).st = 9))) ∧ AdQ B w m a lv x b s g d (aNext b s g d ⟨W, L, 1, x0, l6, sp, ww, vv⟩) w')
      rw [e1]
      refine (add_Step 54 (x0) (l6) (((sp : Nat) : Int)) (rd W sp) (pVal (rd W sp) + d) (.func (.func 58) #[] #[]) (W) (L ++ [⟨1, sp, rd W sp, 0, false⟩]) false (Or.inr ⟨_, rfl, rfl⟩) hm hx callF_alook (add_look sp hm hx (by omega) hL d1 (rd W sp) (pVal (rd W sp) + d) rfl rfl _ (by rw [if_pos hc]))).mono ?_
      rintro e w' ⟨rfl, lv', h1, h2, h3, h4⟩
      exact ⟨rfl, lv', h1, h2, h3, h4⟩
    · have e1 : aNext b s g d ⟨W, L, 1, x0, l6, sp, ww, vv⟩ = ⟨W, L ++ [⟨1, sp, rd W sp, 0, false⟩], 3, x0, l6, sp, rd W sp, pVal (rd W sp) + d⟩ := by simp only [aNext]; rw [if_neg hc]
      show Calls _ _ _ _ (fun e w' => e = .returned (.bool (decide ((aNext b s g d ⟨W, L, 1, x0, l6, sp, ww, vv⟩).st = 9))) ∧ AdQ B w m a lv x b s g d (aNext b s g d ⟨W, L, 1, x0, l6, sp, ww, vv⟩) w')
      rw [e1]
      refine (add_Step 54 (x0) (l6) (((sp : Nat) : Int)) (rd W sp) (pVal (rd W sp) + d) (.func (.func 59) #[] #[]) (W) (L ++ [⟨1, sp, rd W sp, 0, false⟩]) false (Or.inr ⟨_, rfl, rfl⟩) hm hx callF_alook (add_look sp hm hx (by omega) hL d1 (rd W sp) (pVal (rd W sp) + d) rfl rfl _ (by rw [if_neg hc]))).mono ?_
      rintro e w' ⟨rfl, lv', h1, h2, h3, h4⟩
      exact ⟨rfl, lv', h1, h2, h3, h4⟩
  · have pb' := pb (by omega) (by omega)
    have vb' := vb rfl
    have hx1 : Blk w x 95 [i64 (b : Int), i64 (s : Int), i64 g, i64 d, i64 x0, i64 l6, i64 (sp : Int), i64 ww, i64 vv, .func (.func 58) #[] #[]] := hx
    clear hx
    have hx := hx1
    clear hx1
    cases hq : (rd W sp == ww)
    · have h0 : ¬ rd W sp = ww := by simpa using hq
      by_cases hc : l6 < (s : Int)
      · have e1 : aNext b s g d ⟨W, L, 2, x0, l6, sp, ww, vv⟩ = ⟨casW W sp ww (pNext6 ww vv), L ++ [⟨3, sp, ww, pNext6 ww vv, false⟩], 8, x0, l6, sp, ww, vv⟩ := by simp only [aNext]; rw [if_neg h0, hq]; simp only [aMiss]; rw [if_pos (by omega)]
        show Calls _ _ _ _ (fun e w' => e = .returned (.bool (decide ((aNext b s g d ⟨W, L, 2, x0, l6, sp, ww, vv⟩).st = 9))) ∧ AdQ B w m a lv x b s g d (aNext b s g d ⟨W, L, 2, x0, l6, sp, ww, vv⟩) w')
        rw [e1]
        refine (add_Step 58 (x0) (l6) (((sp : Nat) : Int)) (ww) (vv) (.func (.func 67) #[] #[]) (casW W sp ww (pNext6 ww vv)) (L ++ [⟨3, sp, ww, pNext6 ww vv, false⟩]) false (Or.inr ⟨_, rfl, rfl⟩) hm hx callF_akeep (by have h := add_keep_no sp hm hx (by omega) hL (by omega) hq xb; unfold missF missX at h; rw [if_pos (by omega), if_pos (by omega)] at h; exact h)).mono ?_
        rintro e w' ⟨rfl, lv', h1, h2, h3, h4⟩
        exact ⟨rfl, lv', h1, h2, h3, h4⟩
      · have e1 : aNext b s g d ⟨W, L, 2, x0, l6, sp, ww, vv⟩ = ⟨casW W sp ww (pNext6 ww vv), L ++ [⟨3, sp, ww, pNext6 ww vv, false⟩], 0, dNext x0, l6, sp, ww, vv⟩ := by simp only [aNext]; rw [if_neg h0, hq]; simp only [aMiss]; rw [if_neg (by omega)]
        show Calls _ _ _ _ (fun e w' => e = .returned (.bool (decide ((aNext b s g d ⟨W, L, 2, x0, l6, sp, ww, vv⟩).st = 9))) ∧ AdQ B w m a lv x b s g d (aNext b s g d ⟨W, L, 2, x0, l6, sp, ww, vv⟩) w')
        rw [e1]
        refine (add_Step 58 (dNext x0) (l6) (((sp : Nat) : Int)) (ww) (vv) (.func (.func 42) #[] #[]) (casW W sp ww (pNext6 ww vv)) (L ++ [⟨3, sp, ww, pNext6 ww vv, false⟩]) false (Or.inr ⟨_, rfl, rfl⟩) hm hx callF_akeep (by have h := add_keep_no sp hm hx (by omega) hL (by omega) hq xb; unfold missF missX at h; rw [if_neg (by omega), if_neg (by omega)] at h; exact h)).mono ?_
        rintro e w' ⟨rfl, lv', h1, h2, h3, h4⟩
        exact ⟨rfl, lv', h1, h2, h3, h4⟩
    · have h0 : rd W sp = ww := by simpa using hq
      have e1 : aNext b s g d ⟨W, L, 2, x0, l6, sp, ww, vv⟩ = ⟨casW W sp ww (pNext6 ww vv), L ++ [⟨3, sp, ww, pNext6 ww vv, true⟩], 9, x0, l6, sp, ww, vv⟩ := by simp only [aNext]; rw [if_pos h0, hq]
      show Calls _ _ _ _ (fun e w' => e = .returned (.bool (decide ((aNext b s g d ⟨W, L, 2, x0, l6, sp, ww, vv⟩).st = 9))) ∧ AdQ B w m a lv x b s g d (aNext b s g d ⟨W, L, 2, x0, l6, sp, ww, vv⟩) w')
      rw [e1]
      refine (add_Step 58 (x0) (l6) (((sp : Nat) : Int)) (ww) (vv) (.nilFunc) (casW W sp ww (pNext6 ww vv)) (L ++ [⟨3, sp, ww, pNext6 ww vv, true⟩]) true (Or.inl ⟨rfl, rfl⟩) hm hx callF_akeep (add_keep_yes sp hm hx (by omega) hL (by omega) hq)).mono ?_
      rintro e w' ⟨rfl, lv', h1, h2, h3, h4⟩
      exact ⟨rfl, lv', h1, h2, h3, h4⟩
  · have hx1 : Blk w x 95 [i64 (b : Int), i64 (s : Int), i64 g, i64 d, i64 x0, i64 l6, i64 (sp : Int), i64 ww, i64 vv, .func (.func 59) #[] #[]] := hx
    clear hx
    have hx := hx1
    clear hx1
    have e1 : aNext b s g d ⟨W, L, 3, x0, l6, sp, ww, vv⟩ = ⟨W.set (b + 1) (wrap64 (rd W (b + 1) + 1)), L ++ [⟨2, (b + 1 : Nat), 1, wrap64 (rd W (b + 1) + 1), false⟩], 4, x0, l6, sp, ww, vv⟩ := by rfl
    show Calls _ _ _ _ (fun e w' => e = .returned (.bool (decide ((aNext b s g d ⟨W, L, 3, x0, l6, sp, ww, vv⟩).st = 9))) ∧ AdQ B w m a lv x b s g d (aNext b s g d ⟨W, L, 3, x0, l6, sp, ww, vv⟩) w')
    rw [e1]
    refine (add_Step 59 (x0) (l6) (((sp : Nat) : Int)) (ww) (vv) (.func (.func 64) #[] #[]) (W.set (b + 1) (wrap64 (rd W (b + 1) + 1))) (L ++ [⟨2, (b + 1 : Nat), 1, wrap64 (rd W (b + 1) + 1), false⟩]) false (Or.inr ⟨_, rfl, rfl⟩) hm hx callF_aopen (add_open (b + 1) hm hx (by omega) (by omega) hL wl)).mono ?_
    rintro e w' ⟨rfl, lv', h1, h2, h3, h4⟩
    exact ⟨rfl, lv', h1, h2, h3, h4⟩
  · have pb' := pb (by omega) (by omega)
    have hx1 : Blk w x 95 [i64 (b : Int), i64 (s : Int), i64 g, i64 d, i64 x0, i64 l6, i64 (sp : Int), i64 ww, i64 vv, .func (.func 64) #[] #[]] := hx
    clear hx
    have hx := hx1
    clear hx1
    cases hq : (rd W sp == ww)
    · have h0 : ¬ rd W sp = ww := by simpa using hq
      have e1 : aNext b s g d ⟨W, L, 4, x0, l6, sp, ww, vv⟩ = ⟨casW W sp ww (pNext6 ww 0), L ++ [⟨3, sp, ww, pNext6 ww 0, false⟩], 7, x0, l6, sp, ww, vv⟩ := by simp only [aNext]; rw [if_neg h0, hq]
      show Calls _ _ _ _ (fun e w' => e = .returned (.bool (decide ((aNext b s g d ⟨W, L, 4, x0, l6, sp, ww, vv⟩).st = 9))) ∧ AdQ B w m a lv x b s g d (aNext b s g d ⟨W, L, 4, x0, l6, sp, ww, vv⟩) w')
      rw [e1]
      refine (add_Step 64 (x0) (l6) (((sp : Nat) : Int)) (ww) (vv) (.func (.func 71) #[] #[]) (casW W sp ww (pNext6 ww 0)) (L ++ [⟨3, sp, ww, pNext6 ww 0, false⟩]) false (Or.inr ⟨_, rfl, rfl⟩) hm hx callF_aempty (by have h := add_empty sp hm hx (by omega) hL; rw [hq, if_neg (by decide)] at h; exact h)).mono ?_
      rintro e w' ⟨rfl, lv', h1, h2, h3, h4⟩
      exact ⟨rfl, lv', h1, h2, h3, h4⟩
    · have h0 : rd W sp = ww := by simpa using hq
      have e1 : aNext b s g d ⟨W, L, 4, x0, l6, sp, ww, vv⟩ = ⟨casW W sp ww (pNext6 ww 0), L ++ [⟨3, sp, ww, pNext6 ww 0, true⟩], 5, x0, l6, sp, ww, vv⟩ := by simp only [aNext]; rw [if_pos h0, hq]
      show Calls _ _ _ _ (fun e w' => e = .returned (.bool (decide ((aNext b s g d ⟨W, L, 4, x0, l6, sp, ww, vv⟩).st = 9))) ∧ AdQ B w m a lv x b s g d (aNext b s g d ⟨W, L, 4, x0, l6, sp, ww, vv⟩) w')
      rw [e1]
      refine (add_Step 64 (x0) (l6) (((sp : Nat) : Int)) (ww) (vv) (.func (.func 70) #[] #[]) (casW W sp ww (pNext6 ww 0)) (L ++ [⟨3, sp, ww, pNext6 ww 0, true⟩]) false (Or.inr ⟨_, rfl, rfl⟩) hm hx callF_aempty (by have h := add_empty sp hm hx (by omega) hL; rw [hq, if_pos rfl] at h; exact h)).mono ?_
      rintro e w' ⟨rfl, lv', h1, h2, h3, h4⟩
      exact ⟨rfl, lv', h1, h2, h3, h4⟩
  · have hx1 : Blk w x 95 [i64 (b : Int), i64 (s : Int), i64 g, i64 d, i64 x0, i64 l6, i64 (sp : Int), i64 ww, i64 vv, .func (.func 70) #[] #[]] := hx
    clear hx
    have hx := hx1
    clear hx1
    have e1 : aNext b s g d ⟨W, L, 5, x0, l6, sp, ww, vv⟩ = ⟨W.set b (wrap64 (rd W b + vv)), L ++ [⟨2, b, vv, wrap64 (rd W b + vv), false⟩], 6, x0, l6, sp, ww, vv⟩ := by rfl
    show Calls _ _ _ _ (fun e w' => e = .returned (.bool (decide ((aNext b s g d ⟨W, L, 5, x0, l6, sp, ww, vv⟩).st = 9))) ∧ AdQ B w m a lv x b s g d (aNext b s g d ⟨W, L, 5, x0, l6, sp, ww, vv⟩) w')
    rw [e1]
    refine (add_Step 70 (x0) (l6) (((sp : Nat) : Int)) (ww) (vv) (.func (.func 75) #[] #[]) (W.set b (wrap64 (rd W b + vv))) (L ++ [⟨2, b, vv, wrap64 (rd W b + vv), false⟩]) false (Or.inr ⟨_, rfl, rfl⟩) hm hx callF_aflush (add_flush b hm hx (by omega) (by omega) hL wl)).mono ?_
    rintro e w' ⟨rfl, lv', h1, h2, h3, h4⟩
    exact ⟨rfl, lv', h1, h2, h3, h4⟩
  · have hx1 : Blk w x 95 [i64 (b : Int), i64 (s : Int), i64 g, i64 d, i64 x0, i64 l6, i64 (sp : Int), i64 ww, i64 vv, .func (.func 75) #[] #[]] := hx
    clear hx
    have hx := hx1
    clear hx1
    have e1 : aNext b s g d ⟨W, L, 6, x0, l6, sp, ww, vv⟩ = ⟨W.set (b + 2) (wrap64 (rd W (b + 2) + 1)), L ++ [⟨2, (b + 2 : Nat), 1, wrap64 (rd W (b + 2) + 1), false⟩], 9, x0, l6, sp, ww, vv⟩ := by rfl
    show Calls _ _ _ _ (fun e w' => e = .returned (.bool (decide ((aNext b s g d ⟨W, L, 6, x0, l6, sp, ww, vv⟩).st = 9))) ∧ AdQ B w m a lv x b s g d (aNext b s g d ⟨W, L, 6, x0, l6, sp, ww, vv⟩) w')
    rw [e1]
    refine (add_Step 75 (x0) (l6) (((sp : Nat) : Int)) (ww) (vv) (.nilFunc) (W.set (b + 2) (wrap64 (rd W (b + 2) + 1))) (L ++ [⟨2, (b + 2 : Nat), 1, wrap64 (rd W (b + 2) + 1), false⟩]) true (Or.inl ⟨rfl, rfl⟩) hm hx callF_aclose (add_close (b + 2) hm hx (by omega) (by omega) hL wl)).mono ?_
    rintro e w' ⟨rfl, lv', h1, h2, h3, h4⟩
    exact ⟨rfl, lv', h1, h2, h3, h4⟩
  · have hx1 : Blk w x 95 [i64 (b : Int), i64 (s : Int), i64 g, i64 d, i64 x0, i64 l6, i64 (sp : Int), i64 ww, i64 vv, .func (.func 71) #[] #[]] := hx
    clear hx
    have hx := hx1
    clear hx1
    by_cases hc : l6 < (s : Int)
    · have e1 : aNext b s g d ⟨W, L, 7, x0, l6, sp, ww, vv⟩ = ⟨W.set (b + 2) (wrap64 (rd W (b + 2) + 1)), L ++ [⟨2, (b + 2 : Nat), 1, wrap64 (rd W (b + 2) + 1), false⟩], 8, x0, l6, sp, ww, vv⟩ := by simp only [aNext]; simp only [aMiss]; rw [if_pos (by omega)]
      show Calls _ _ _ _ (fun e w' => e = .returned (.bool (decide ((aNext b s g d ⟨W, L, 7, x0, l6, sp, ww, vv⟩).st = 9))) ∧ AdQ B w m a lv x b s g d (aNext b s g d ⟨W, L, 7, x0, l6, sp, ww, vv⟩) w')
      rw [e1]
      refine (add_Step 71 (x0) (l6) (((sp : Nat) : Int)) (ww) (vv) (.func (.func 67) #[] #[]) (W.set (b + 2) (wrap64 (rd W (b + 2) + 1))) (L ++ [⟨2, (b + 2 : Nat), 1, wrap64 (rd W (b + 2) + 1), false⟩]) false (Or.inr ⟨_, rfl, rfl⟩) hm hx callF_aundo (by have h := add_undo (b + 2) hm hx (by omega) (by omega) hL wl xb; unfold missF missX at h; rw [if_pos (by omega), if_pos (by omega)] at h; exact h)).mono ?_
      rintro e w' ⟨rfl, lv', h1, h2, h3, h4⟩
      exact ⟨rfl, lv', h1, h2, h3, h4⟩
    · have e1 : aNext b s g d ⟨W, L, 7, x0, l6, sp, ww, vv⟩ = ⟨W.set (b + 2) (wrap64 (rd W (b + 2) + 1)), L ++ [⟨2, (b + 2 : Nat), 1, wrap64 (rd W (b + 2) + 1), false⟩], 0, dNext x0, l6, sp, ww, vv⟩ := by simp only [aNext]; simp only [aMiss]; rw [if_neg (by omega)]
      show Calls _ _ _ _ (fun e w' => e = .returned (.bool (decide ((aNext b s g d ⟨W, L, 7, x0, l6, sp, ww, vv⟩).st = 9))) ∧ AdQ B w m a lv x b s g d (aNext b s g d ⟨W, L, 7, x0, l6, sp, ww, vv⟩) w')
      rw [e1]
      refine (add_Step 71 (dNext x0) (l6) (((sp : Nat) : Int)) (ww) (vv) (.func (.func 42) #[] #[]) (W.set (b + 2) (wrap64 (rd W (b + 2) + 1))) (L ++ [⟨2, (b + 2 : Nat), 1, wrap64 (rd W (b + 2) + 1), false⟩]) false (Or.inr ⟨_, rfl, rfl⟩) hm hx callF_aundo (by have h := add_undo (b + 2) hm hx (by omega) (by omega) hL wl xb; unfold missF missX at h; rw [if_neg (by omega), if_neg (by omega)] at h; exact h)).mono ?_
      rintro e w' ⟨rfl, lv', h1, h2, h3, h4⟩
      exact ⟨rfl, lv', h1, h2, h3, h4⟩
  · have lb' := lb (by omega) (by omega)
    have hl1 : 1 ≤ l6 ∧ l6 ≤ 8 := by unfold p2 at lb'; omega
    have hx1 : Blk w x 95 [i64 (b : Int), i64 (s : Int), i64 g, i64 d, i64 x0, i64 l6, i64 (sp : Int), i64 ww, i64 vv, .func (.func 67) #[] #[]] := hx
    clear hx
    have hx := hx1
    clear hx1
    have e1 : aNext b s g d ⟨W, L, 8, x0, l6, sp, ww, vv⟩ = ⟨casW W (b + 3) l6 (2 * l6), L ++ [⟨3, (b + 3 : Nat), l6, 2 * l6, rd W (b + 3) == l6⟩], 0, dNext x0, l6, sp, ww, vv⟩ := by rfl
    show Calls _ _ _ _ (fun e w' => e = .returned (.bool (decide ((aNext b s g d ⟨W, L, 8, x0, l6, sp, ww, vv⟩).st = 9))) ∧ AdQ B w m a lv x b s g d (aNext b s g d ⟨W, L, 8, x0, l6, sp, ww, vv⟩) w')
    rw [e1]
    refine (add_Step 67 (dNext x0) (l6) (((sp : Nat) : Int)) (ww) (vv) (.func (.func 42) #[] #[]) (casW W (b + 3) l6 (2 * l6)) (L ++ [⟨3, (b + 3 : Nat), l6, 2 * l6, rd W (b + 3) == l6⟩]) false (Or.inr ⟨_, rfl, rfl⟩) hm hx callF_agrow (add_grow (b + 3) hm hx (by omega) (by omega) hL wl xb (by omega))).mono ?_
    rintro e w' ⟨rfl, lv', h1, h2, h3, h4⟩
    exact ⟨rfl, lv', h1, h2, h3, h4⟩
  · refine (add_Step_end (m := m) hx).mono ?_
    rintro e w' ⟨rfl, rfl⟩
    exact ⟨rfl, lv, hm, hx, Keep.refl _ _, fun _ h => Or.inl h⟩
/-- the machine, its Mem, and its words' bounds, between steps -/
def AdSys (B m a x b s : Nat) (g d : Int) (len L0 : Nat) (lv0 : Value) (N : Nat) (k : Nat) (w : World) (t : AS) : Prop :=
  ∃ lv, MemAt B w m a lv t.W t.L ∧ (∀ k, lv.ownBlock = some k → lv0.ownBlock = some k ∨ N ≤ k) ∧ Blk w x 95 (acs b s g d t) ∧ t.W.length = len ∧ t.L.length ≤ L0 + k ∧ AInv b s g d t ∧ N ≤ w.heap.size
theorem AdSys.same {len L0 N k : Nat} {lv0 : Value} {t : AS} {w' : World} (h : AdSys B m a x b s g d len L0 lv0 N k w t) (hk : Keep0 w w') : AdSys B m a x b s g d len L0 lv0 N k w' t := by
  obtain ⟨lv1, h1, h2, h3, h4, h5, h6, h8⟩ := h
  exact ⟨lv1, h1.same hk, h2, hk.blk h3 (fun h => h), h4, h5, h6, Nat.le_trans h8 hk.size⟩
theorem AdSys.poke {len L0 N k : Nat} {lv0 : Value} {t : AS} (h : AdSys B m a x b s g d len L0 lv0 N k w t) (i y : Int) (h0 : 0 ≤ i) (hi : i < len) (hok : i = ((b + 3 : Nat) : Int) → p2 y ∧ y ≤ (s : Int)) :
    Calls Try.prog 30 #[ptr m, i64 i, i64 y] w fun e w' => e = .returned (.tuple #[]) ∧ AdSys B m a x b s g d len L0 lv0 N k w' (aPk t i.toNat y) ∧ Keep (fun b => (b = m ∨ b = a ∨ b = x ∨ lv0.ownBlock = some b) ∨ N ≤ b) w w' := by
  obtain ⟨lv1, h1, h2, h3, h4, h5, h6, h8⟩ := h
  have hxa := h3.ne h1.words (by decide)
  refine (mem_Poke i y h1 h0 (by rw [h4]; exact hi)).mono ?_
  rintro e w2 ⟨rfl, hm2, hk2⟩
  exact ⟨rfl, ⟨lv1, hm2, h2, hk2.blk h3 (fun e => hxa e), by simp [aPk, h4], h5, h6.poke _ _ (fun e => hok (by omega)), Nat.le_trans h8 hk2.size⟩, hk2.mono (fun k e => Or.inl (Or.inr (Or.inl e)))⟩
theorem AdSys.step {len L0 N k : Nat} {lv0 : Value} {t : AS} (h : AdSys B m a x b s g d len L0 lv0 N k w t) (hk : k ≤ 2000) (hL : L0 ≤ 1000000) :
    Calls Try.prog 28 #[ptr x, ptr m] w fun e w' => e = .returned (.bool (aStp b s g d t).2) ∧ AdSys B m a x b s g d len L0 lv0 N (k + 1) w' (aStp b s g d t).1 ∧ Keep (fun b => (b = m ∨ b = a ∨ b = x ∨ lv0.ownBlock = some b) ∨ N ≤ b) w w' := by
  obtain ⟨lv1, h1, h2, h3, h4, h5, h6, h8⟩ := h
  refine (addS_Step t h1 h3 h6 (by omega)).mono ?_
  rintro e w2 ⟨rfl, lv2, hm2, hx2, hk2, hl2⟩
  refine ⟨rfl, ⟨lv2, hm2, ?_, hx2, (aNext_len t).trans h4, ?_, h6.step, Nat.le_trans h8 hk2.size⟩, hk2.mono ?_⟩
  · intro k hk
    rcases hl2 k hk with h | h
    · exact h2 k h
    · exact Or.inr (Nat.le_trans h8 h)
  · show (aNext b s g d t).L.length ≤ _
    by_cases h7 : t.st = 9
    · rw [aNext_over h7]; omega
    · rw [aNext_log t (by have := h6.nx; omega)]; omega
  · rintro k ((h | h | h) | h)
    · exact Or.inl (Or.inl h)
    · exact Or.inl (Or.inr (Or.inl h))
    · rcases h2 k h with h | h
      · exact Or.inl (Or.inr (Or.inr (Or.inr h)))
      · exact Or.inr h
    · exact Or.inl (Or.inr (Or.inr (Or.inl h)))
def okPokesA (b s : Nat) (l : List Pk) : Prop := ∀ p ∈ l, p.w = ((b + 3 : Nat) : Int) → p2 p.x ∧ p.x ≤ (s : Int)
set_option maxHeartbeats 2000000 in
theorem play_add (t : AS) (l : List Pk) (A0 : Option Addr) (kb ko c most : Nat) (hm : MemAt B w m a lv t.W t.L) (hx : Blk w x 95 (acs b s g d t)) (hi : AInv b s g d t) (hL : t.L.length ≤ 1000000)
    (hmost : most ≤ 2000) (hl : l.length ≤ 1000000) (hok : okPokesA b s l) (hA0 : 0 < l.length → A0 = some ⟨kb, ko, none⟩ ∧ kb < w.heap.size ∧ kb ≠ m ∧ kb ≠ a ∧ kb ≠ x ∧ lv.ownBlock ≠ some kb)
    (hcells : ∀ i (h : i < l.length), w.cell? ⟨kb, ko + i * 3, none⟩ = some (i64 l[i].at_) ∧ w.cell? ⟨kb, ko + i * 3 + 1, none⟩ = some (i64 l[i].w) ∧ w.cell? ⟨kb, ko + i * 3 + 2, none⟩ = some (i64 l[i].x)) :
    Calls Try.prog 14 #[ptr m, .iface 64 (ptr x), .slice A0 l.length c, i64 most] w fun e w' =>
      e = .returned (.tuple #[i64 (playF (aStp b s g d) aPk t.W.length l most 0 t).2.1, .bool (playF (aStp b s g d) aPk t.W.length l most 0 t).2.2]) ∧
      (∃ k, AdSys B m a x b s g d t.W.length t.L.length lv w.heap.size k w' (playF (aStp b s g d) aPk t.W.length l most 0 t).1) ∧ Keep (fun k => (k = m ∨ k = a ∨ k = x ∨ lv.ownBlock = some k) ∨ w.heap.size ≤ k) w w' := by
  refine mem_Play (AdSys B m a x b s g d t.W.length t.L.length lv w.heap.size) (aStp b s g d) aPk t.W.length 28 64 x m (fun k => k = m ∨ k = a ∨ k = x ∨ lv.ownBlock = some k) w.heap.size l A0 kb ko c most w t (by omega) hl (Nat.le_refl _) ?_ hcells ?_ ?_ ?_ ?_ (fun w => meth_aStep x w) callF_aStep ?_
  · intro h0
    obtain ⟨e, hb, hbm, hba, hbx, hbl⟩ := hA0 h0
    refine ⟨e, hb, ?_⟩
    rintro (h | h | h | h)
    · exact hbm h
    · exact hba h
    · exact hbx h
    · exact hbl h
  · rintro n w1 t1 ⟨lv1, h1, _, _, hlen, _⟩
    exact ⟨a, lv1, by rw [← hlen]; exact h1.mem⟩
  · rintro n w1 w2 t1 h hk
    exact h.same hk
  · rintro n w1 t1 i y ⟨p, hp, rfl, rfl⟩ h hi0 hi1
    exact h.poke p.w p.x hi0 hi1 (fun e => hok p hp e)
  · rintro n w1 t1 hn h
    exact h.step (by omega) hL
  · exact ⟨lv, hm, fun _ h => Or.inl h, hx, rfl, by omega, hi, Nat.le_refl _⟩
theorem adplay_keeps {w w' : World} {b : Nat} {lv : Value} {W : List Int} {L : List Acc} {T : TypeId} {cs ds : List Value} (hb : Blk w b T cs) (hm : MemAt B w m a lv W L) (hx : Blk w x 95 ds) (h1 : T ≠ 84) (h2 : T ≠ 3) (h3 : T ≠ 95) (h4 : T ≠ 42)
    (hk : Keep (fun k => (k = m ∨ k = a ∨ k = x ∨ lv.ownBlock = some k) ∨ w.heap.size ≤ k) w w') : Blk w' b T cs := hk.blk hb (by
  rintro ((h | h | h | h) | h)
  · exact hb.ne hm.mem h1 h
  · exact hb.ne hm.words h2 h
  · exact hb.ne hx h3 h
  · exact ownBlock_ne hm.log hb h4 h.symm
  · have := hb.lt; omega)
theorem adplay_keepx {w w' : World} {b : Nat} {lv : Value} {W : List Int} {L : List Acc} {cs : List Value} (hb : Blk w b 95 cs) (hm : MemAt B w m a lv W L) (hx : b ≠ x)
    (hk : Keep (fun k => (k = m ∨ k = a ∨ k = x ∨ lv.ownBlock = some k) ∨ w.heap.size ≤ k) w w') : Blk w' b 95 cs := hk.blk hb (by
  rintro ((h | h | h | h) | h)
  · exact hb.ne hm.mem (by decide) h
  · exact hb.ne hm.words (by decide) h
  · exact hx h
  · exact ownBlock_ne hm.log hb (by decide) h.symm
  · have := hb.lt; omega)
end
end Go.Proofs.Ytlkniogapdhcpaa
