/- package draw: Next. -/
import Derived.Test.YtlkniogapdhcpaaPack
namespace Go.Proofs.Ytlkniogapdhcpaa
open Go.RowKit
set_option linter.unusedVariables false
set_option linter.unusedSimpArgs false
set_option maxRecDepth 100000

@[go_sem] theorem store_func_any (P : Program) (w : World) (a : Addr) (m : Mode) (fn : Fn) (x y : Array Value) : (store a (.func fn x y) m).run P w = stored P w a (.func fn x y) m := run_store P w a _ m rfl
theorem draw_up (n : Int) (w : World) : Calls Try.prog 77 #[i64 n] w (fun e w' => ∃ p, e = .returned (.func (.func 78) #[] #[ptr p]) ∧ Blk w' p 3 [i64 n] ∧ Keep0 w w') := by
  go_enter Try.func77, Try.ntmps77
  go_wp2_with fail
  go_ret
  exact ⟨_, rfl, Blk.made rfl rfl, (Keep.refl _ _).alloc _⟩
theorem draw_down (n : Int) (w : World) : Calls Try.prog 79 #[i64 n] w (fun e w' => ∃ p, e = .returned (.func (.func 80) #[] #[ptr p]) ∧ Blk w' p 3 [i64 n] ∧ Keep0 w w') := by
  go_enter Try.func79, Try.ntmps79
  go_wp2_with fail
  go_ret
  exact ⟨_, rfl, Blk.made rfl rfl, (Keep.refl _ _).alloc _⟩
def xUp (by_ : Nat) (n : Int) : Int := bits BinOp.xor IntKind.u32 n (n * 2 ^ by_ % 4294967296)
def xDn (by_ : Nat) (n : Int) : Int := bits BinOp.xor IntKind.u32 n (n / 2 ^ by_)
theorem draw_up1 (n : Int) (p : Nat) (k : Nat) (w : World) (hk : k = 13 ∨ k = 5) (hn : 0 ≤ n ∧ n < 4294967296) (hp : Blk w p 3 [i64 k]) : Calls Try.prog 78 #[.int .u32 n, ptr p] w (fun e w' => e = .returned (.int .u32 (xUp k n)) ∧ w = w') := by
  have qp := hp.k1
  clear hp
  rcases hk with rfl | rfl
  all_goals go_enter Try.func78, Try.ntmps78
  all_goals go_wp2_with fail
  all_goals go_ret
  all_goals exact ⟨rfl, rfl⟩
theorem draw_dn1 (n : Int) (p : Nat) (w : World) (hn : 0 ≤ n ∧ n < 4294967296) (hp : Blk w p 3 [i64 17]) : Calls Try.prog 80 #[.int .u32 n, ptr p] w (fun e w' => e = .returned (.int .u32 (xDn 17 n)) ∧ w = w') := by
  have qp := hp.k1
  clear hp
  go_enter Try.func80, Try.ntmps80
  go_wp2_with fail
  go_ret
  exact ⟨rfl, rfl⟩
@[go_sem] theorem idx_0 (f0 f1 f2 : Value) (w : World) : (Instr.index 117 (.agg #[f0, f1, f2]) (.int .i64 0)).run Try.prog w = .ok f0 w := by kernel_rfl
@[go_sem] theorem idx_1 (f0 f1 f2 : Value) (w : World) : (Instr.index 117 (.agg #[f0, f1, f2]) (.int .i64 1)).run Try.prog w = .ok f1 w := by kernel_rfl
@[go_sem] theorem idx_2 (f0 f1 f2 : Value) (w : World) : (Instr.index 117 (.agg #[f0, f1, f2]) (.int .i64 2)).run Try.prog w = .ok f2 w := by kernel_rfl
theorem draw_shifts (w : World) : Calls Try.prog 76 #[] w (fun e w' => ∃ p q r, e = .returned (.agg #[.func (.func 78) #[] #[ptr p], .func (.func 80) #[] #[ptr q], .func (.func 78) #[] #[ptr r]]) ∧ Blk w' p 3 [i64 13] ∧ Blk w' q 3 [i64 17] ∧ Blk w' r 3 [i64 5] ∧ Keep0 w w') := by
  go_enter Try.func76, Try.ntmps76
  go_wp2_with fail
  have HA0 : Hid (Blk (w.alloc (.cells #[.nilFunc, .nilFunc, .nilFunc] 117)) w.heap.size 117 [.nilFunc, .nilFunc, .nilFunc]) := hid (Blk.made rfl rfl)
  have HK0 : Hid (Keep0 w (w.alloc (.cells #[.nilFunc, .nilFunc, .nilFunc] 117))) := hid ((Keep.refl _ _).alloc _)
  refine (draw_up 13 _).mono ?_
  rintro e w1 ⟨p, rfl, hp, hk⟩
  have HA1 := hid (hk.blk HA0.out (fun h => h))
  have HK1 : Hid (Keep0 w w1) := hid (HK0.out.trans hk (fun _ _ h => h))
  have HP1 := hid hp
  clear hp hk HA0 HK0
  go_wp2_with fail
  refine (draw_down 17 _).mono ?_
  rintro e w2 ⟨q, rfl, hp, hk⟩
  have HA2 := hid (hk.blk HA1.out (fun h => h))
  have HK2 : Hid (Keep0 w w2) := hid (HK1.out.trans hk (fun _ _ h => h))
  have HP2 := hid (hk.blk HP1.out (fun h => h))
  have HQ2 := hid hp
  clear hp hk HA1 HK1 HP1
  go_wp2_with fail
  refine (draw_up 5 _).mono ?_
  rintro e w3 ⟨r, rfl, hp, hk⟩
  have HA3 := hid (hk.blk HA2.out (fun h => h))
  have HK3 : Hid (Keep0 w w3) := hid (HK2.out.trans hk (fun _ _ h => h))
  have HP3 := hid (hk.blk HP2.out (fun h => h))
  have HQ3 := hid (hk.blk HQ2.out (fun h => h))
  have HR3 := hid hp
  have qa := HA3.out.k3
  clear hp hk HA2 HK2 HP2 HQ2
  go_wp2_with fail
  have hb := ((HA3.out.set 0 (.func (.func 78) #[] #[ptr p])).set 1 (.func (.func 80) #[] #[ptr q])).set 2 (.func (.func 78) #[] #[ptr r])
  have hk := ((((Keep.refl (fun k => k = w.heap.size) w3).set ⟨w.heap.size, 0, none⟩ (.func (.func 78) #[] #[ptr p]) (fun _ => rfl))).set ⟨w.heap.size, 1, none⟩ (.func (.func 80) #[] #[ptr q]) (fun _ => rfl)).set ⟨w.heap.size, 2, none⟩ (.func (.func 78) #[] #[ptr r]) (fun _ => rfl)
  have hp4 := hk.blk HP3.out (fun e => HP3.out.ne HA3.out (by decide) e)
  have hq4 := hk.blk HQ3.out (fun e => HQ3.out.ne HA3.out (by decide) e)
  have hr4 := hk.blk HR3.out (fun e => HR3.out.ne HA3.out (by decide) e)
  have hk4 : Keep0 w _ := (HK3.out.trans (S := fun _ => False) hk (fun k hkk hs => by have e : k = w.heap.size := hs; omega))
  generalize ((w3.setCell ⟨w.heap.size, 0, none⟩ (.func (.func 78) #[] #[ptr p])).setCell ⟨w.heap.size, 1, none⟩ (.func (.func 80) #[] #[ptr q])).setCell ⟨w.heap.size, 2, none⟩ (.func (.func 78) #[] #[ptr r]) = w4 at *
  have qb := (show Blk w4 w.heap.size 117 [.func (.func 78) #[] #[ptr p], .func (.func 80) #[] #[ptr q], .func (.func 78) #[] #[ptr r]] from hb).k3
  exact bodyPost_ret (v := .agg #[.func (.func 78) #[] #[ptr p], .func (.func 80) #[] #[ptr q], .func (.func 78) #[] #[ptr r]]) (by simp [results, Try.results76, go_sem, qb]) rfl ⟨p, q, r, rfl, hp4, hq4, hr4, hk4⟩
/-- a draw behind i turns -/
def dSt (y : Int) : Nat → Int
  | 0 => y
  | 1 => xUp 13 y
  | 2 => xDn 17 (xUp 13 y)
  | _ => xUp 5 (xDn 17 (xUp 13 y))
theorem bits_bd (op : BinOp) (a b : Int) : 0 ≤ bits op IntKind.u32 a b ∧ bits op IntKind.u32 a b < 4294967296 := by
  unfold bits
  cases op <;> simp only [IntKind.wrap_u32] <;> omega
theorem dSt_bd (y : Int) (h : 0 ≤ y ∧ y < 4294967296) (i : Nat) : 0 ≤ dSt y i ∧ dSt y i < 4294967296 := by
  match i with
  | 0 => exact h
  | 1 => rw [dSt]; unfold xUp; exact bits_bd _ _ _
  | 2 => rw [dSt]; unfold xDn; exact bits_bd _ _ _
  | n + 3 => show 0 ≤ xUp 5 _ ∧ xUp 5 _ < _; unfold xUp; exact bits_bd _ _ _
def dNext (x : Int) : Int := dSt (if 1 ≤ x ∧ x < 4294967296 then x else 1) 3
set_option maxHeartbeats 2000000 in
theorem draw_Next (x : Int) (w : World) (hx : -9223372036854775808 ≤ x ∧ x ≤ 9223372036854775807) : Calls Try.prog 74 #[i64 x] w (Ret (i64 (dNext x)) w) := by
  by_cases h1 : 1 ≤ x ∧ x < 4294967296
  · have y1 : IntKind.u32.wrap x = x := by rw [IntKind.wrap_u32]; omega
    have y1' : x % 4294967296 = x := by omega
    have g1 : (x == 0) = false := by simp; omega
    have hXb : 0 ≤ x ∧ x < 4294967296 := by omega
    have hd : dNext x = dSt x 3 := by unfold dNext; rw [if_pos h1]
    rw [hd]
    clear hd
    go_enter Try.func74, Try.ntmps74
    go_wp2_with fail
    refine (draw_shifts _).mono ?_
    rintro e w1 ⟨p, q, r, rfl, hp, hq, hr, hk⟩
    have HP := hid hp
    have HQ := hid hq
    have HR := hid hr
    have HK := hid hk
    clear hp hq hr hk
    go_wp2_with fail
    go_loopw [3, 17] (fun v3 v17 wr => ∃ i : Nat, i ≤ 3 ∧ v17 = .int .i64 i ∧ v3 = .int .u32 (dSt x i) ∧ wr = w1) (fun _ v _ => 3 - (intOf v).toNat)
    case atStart => exact ⟨0, by omega, rfl, rfl, rfl⟩
    case round =>
      obtain ⟨i, hi, e1, e2, rfl⟩ := hrel
      have hi' : i = 0 ∨ i = 1 ∨ i = 2 ∨ i = 3 := by omega
      rcases hi' with rfl | rfl | rfl | rfl
      · have e1' : _ = Value.int .i64 0 := e1
        have e2' : _ = Value.int .u32 x := e2
        subst e1' e2'
        go_wp2_with fail
        refine (draw_up1 x p 13 _ (Or.inl rfl) hXb HP.out).mono ?_
        rintro e w3 ⟨rfl, rfl⟩
        go_wp2_with fail
        go_roundw
        case rel => exact ⟨1, by omega, by go_num, rfl, by first | rfl | trivial⟩
        case measure => simp [intOf]
      · have e1' : _ = Value.int .i64 1 := e1
        have e2' : _ = Value.int .u32 (dSt x 1) := e2
        subst e1' e2'
        have hb := dSt_bd x hXb 1
        have HN : Hid (dSt x 2 = xDn 17 (dSt x 1)) := hid rfl
        generalize dSt x 1 = Y at *
        go_wp2_with fail
        refine (draw_dn1 Y q _ hb HQ.out).mono ?_
        rintro e w3 ⟨rfl, rfl⟩
        go_wp2_with fail
        go_roundw
        case rel => exact ⟨2, by omega, by go_num, by rw [HN.out], by first | rfl | trivial⟩
        case measure => simp [intOf]
      · have e1' : _ = Value.int .i64 2 := e1
        have e2' : _ = Value.int .u32 (dSt x 2) := e2
        subst e1' e2'
        have hb := dSt_bd x hXb 2
        have HN : Hid (dSt x 3 = xUp 5 (dSt x 2)) := hid rfl
        generalize dSt x 2 = Y at *
        go_wp2_with fail
        refine (draw_up1 Y r 5 _ (Or.inr rfl) hb HR.out).mono ?_
        rintro e w3 ⟨rfl, rfl⟩
        go_wp2_with fail
        go_roundw
        case rel => exact ⟨3, by omega, by go_num, by rw [HN.out], by first | rfl | trivial⟩
        case measure => simp [intOf]
      · have e1' : _ = Value.int .i64 3 := e1
        have e2' : _ = Value.int .u32 (dSt x 3) := e2
        subst e1' e2'
        have hb := dSt_bd x hXb 3
        generalize dSt x 3 = Y at *
        go_wp2_with fail
        go_ret
        exact ⟨rfl, HK.out⟩
  · have hd : dNext x = dSt 1 3 := by unfold dNext; rw [if_neg h1]
    rw [hd]
    clear hd
    have hXb : 0 ≤ (1 : Int) ∧ (1 : Int) < 4294967296 := by decide
    by_cases h2 : x = 0
    · subst h2
      go_enter Try.func74, Try.ntmps74
      go_wp2_with fail
      refine (draw_shifts _).mono ?_
      rintro e w1 ⟨p, q, r, rfl, hp, hq, hr, hk⟩
      have HP := hid hp
      have HQ := hid hq
      have HR := hid hr
      have HK := hid hk
      clear hp hq hr hk
      go_wp2_with fail
      go_loopw [3, 17] (fun v3 v17 wr => ∃ i : Nat, i ≤ 3 ∧ v17 = .int .i64 i ∧ v3 = .int .u32 (dSt 1 i) ∧ wr = w1) (fun _ v _ => 3 - (intOf v).toNat)
      case atStart => exact ⟨0, by omega, rfl, rfl, rfl⟩
      case round =>
        obtain ⟨i, hi, e1, e2, rfl⟩ := hrel
        have hi' : i = 0 ∨ i = 1 ∨ i = 2 ∨ i = 3 := by omega
        rcases hi' with rfl | rfl | rfl | rfl
        · have e1' : _ = Value.int .i64 0 := e1
          have e2' : _ = (Value.int .u32 1) := e2
          subst e1' e2'
          go_wp2_with fail
          refine (draw_up1 1 p 13 _ (Or.inl rfl) hXb HP.out).mono ?_
          rintro e w3 ⟨rfl, rfl⟩
          go_wp2_with fail
          go_roundw
          case rel => exact ⟨1, by omega, by go_num, rfl, by first | rfl | trivial⟩
          case measure => simp [intOf]
        · have e1' : _ = Value.int .i64 1 := e1
          have e2' : _ = Value.int .u32 (dSt 1 1) := e2
          subst e1' e2'
          have hb := dSt_bd 1 hXb 1
          have HN : Hid (dSt 1 2 = xDn 17 (dSt 1 1)) := hid rfl
          generalize dSt 1 1 = Y at *
          go_wp2_with fail
          refine (draw_dn1 Y q _ hb HQ.out).mono ?_
          rintro e w3 ⟨rfl, rfl⟩
          go_wp2_with fail
          go_roundw
          case rel => exact ⟨2, by omega, by go_num, by rw [HN.out], by first | rfl | trivial⟩
          case measure => simp [intOf]
        · have e1' : _ = Value.int .i64 2 := e1
          have e2' : _ = Value.int .u32 (dSt 1 2) := e2
          subst e1' e2'
          have hb := dSt_bd 1 hXb 2
          have HN : Hid (dSt 1 3 = xUp 5 (dSt 1 2)) := hid rfl
          generalize dSt 1 2 = Y at *
          go_wp2_with fail
          refine (draw_up1 Y r 5 _ (Or.inr rfl) hb HR.out).mono ?_
          rintro e w3 ⟨rfl, rfl⟩
          go_wp2_with fail
          go_roundw
          case rel => exact ⟨3, by omega, by go_num, by rw [HN.out], by first | rfl | trivial⟩
          case measure => simp [intOf]
        · have e1' : _ = Value.int .i64 3 := e1
          have e2' : _ = Value.int .u32 (dSt 1 3) := e2
          subst e1' e2'
          have hb := dSt_bd 1 hXb 3
          generalize dSt 1 3 = Y at *
          go_wp2_with fail
          go_ret
          exact ⟨rfl, HK.out⟩
    · have g2 : (x != x % 4294967296) = true := by simp; omega
      go_enter Try.func74, Try.ntmps74
      go_wp2_with fail
      refine (draw_shifts _).mono ?_
      rintro e w1 ⟨p, q, r, rfl, hp, hq, hr, hk⟩
      have HP := hid hp
      have HQ := hid hq
      have HR := hid hr
      have HK := hid hk
      clear hp hq hr hk
      go_wp2_with fail
      go_loopw [3, 17] (fun v3 v17 wr => ∃ i : Nat, i ≤ 3 ∧ v17 = .int .i64 i ∧ v3 = .int .u32 (dSt 1 i) ∧ wr = w1) (fun _ v _ => 3 - (intOf v).toNat)
      case atStart => exact ⟨0, by omega, rfl, rfl, rfl⟩
      case round =>
        obtain ⟨i, hi, e1, e2, rfl⟩ := hrel
        have hi' : i = 0 ∨ i = 1 ∨ i = 2 ∨ i = 3 := by omega
        rcases hi' with rfl | rfl | rfl | rfl
        · have e1' : _ = Value.int .i64 0 := e1
          have e2' : _ = (Value.int .u32 1) := e2
          subst e1' e2'
          go_wp2_with fail
          refine (draw_up1 1 p 13 _ (Or.inl rfl) hXb HP.out).mono ?_
          rintro e w3 ⟨rfl, rfl⟩
          go_wp2_with fail
          go_roundw
          case rel => exact ⟨1, by omega, by go_num, rfl, by first | rfl | trivial⟩
          case measure => simp [intOf]
        · have e1' : _ = Value.int .i64 1 := e1
          have e2' : _ = Value.int .u32 (dSt 1 1) := e2
          subst e1' e2'
          have hb := dSt_bd 1 hXb 1
          have HN : Hid (dSt 1 2 = xDn 17 (dSt 1 1)) := hid rfl
          generalize dSt 1 1 = Y at *
          go_wp2_with fail
          refine (draw_dn1 Y q _ hb HQ.out).mono ?_
          rintro e w3 ⟨rfl, rfl⟩
          go_wp2_with fail
          go_roundw
          case rel => exact ⟨2, by omega, by go_num, by rw [HN.out], by first | rfl | trivial⟩
          case measure => simp [intOf]
        · have e1' : _ = Value.int .i64 2 := e1
          have e2' : _ = Value.int .u32 (dSt 1 2) := e2
          subst e1' e2'
          have hb := dSt_bd 1 hXb 2
          have HN : Hid (dSt 1 3 = xUp 5 (dSt 1 2)) := hid rfl
          generalize dSt 1 2 = Y at *
          go_wp2_with fail
          refine (draw_up1 Y r 5 _ (Or.inr rfl) hb HR.out).mono ?_
          rintro e w3 ⟨rfl, rfl⟩
          go_wp2_with fail
          go_roundw
          case rel => exact ⟨3, by omega, by go_num, by rw [HN.out], by first | rfl | trivial⟩
          case measure => simp [intOf]
        · have e1' : _ = Value.int .i64 3 := e1
          have e2' : _ = Value.int .u32 (dSt 1 3) := e2
          subst e1' e2'
          have hb := dSt_bd 1 hXb 3
          generalize dSt 1 3 = Y at *
          go_wp2_with fail
          go_ret
          exact ⟨rfl, HK.out⟩
end Go.Proofs.Ytlkniogapdhcpaa
