/- plan.Fresh: all words. -/
import Derived.Test.YtjloccnbcgkmgaaFresh
namespace Go.Proofs.Ytjloccnbcgkmgaa
open Go.RowKit
set_option linter.unusedVariables false
set_option linter.unusedSimpArgs false

def layN (s : Int) (L : List Int) : Nat → List Int → List Int
  | 0, W => W
  | n + 1, W => layW s n (rd L n) (layN s L n W)
def freshW (s k : Int) (pn : Nat) (L : List Int) : List Int := layN s L pn (List.replicate (pn * (6 + 2 * s) + 2 * k).toNat 0)
theorem layW_length (s v x : Int) (W : List Int) : (layW s v x W).length = W.length := by simp [layW]
theorem layN_length (s : Int) (L : List Int) (n : Nat) (W : List Int) : (layN s L n W).length = W.length := by
  induction n with
  | zero => rfl
  | succ n ih => rw [layN, layW_length, ih]

theorem callF_fresh1 (args : Array Value) (w : World) : (callFunc 53 args).run Try.prog w = .ok (.enter 53 args) w := by go_simp

set_option maxHeartbeats 2000000 in
set_option maxRecDepth 100000 in
theorem plan_Fresh (B : Nat) (w : World) (lb lo : Nat) (t s g l r k : Int) (PA : Option Addr) (pn pc ln lc : Nat) (L : List Int)
    (hB : B ≤ w.heap.size) (hs0 : 1 ≤ s) (hs1 : s ≤ 8) (hk0 : 0 ≤ k) (hk1 : k ≤ 100) (hp : pn ≤ 100) (hpl : pn ≤ ln) (hL : ∀ i, i < pn → w.cell? ⟨lb, lo + i, none⟩ = some (i64 (rd L i))) (hlb : lb < w.heap.size) :
    Calls Try.prog 32 #[.agg #[i64 t, i64 s, i64 g, i64 l, i64 r, i64 k, .slice PA pn pc, .slice (some ⟨lb, lo, none⟩) ln lc]] w fun e w' => ∃ m a lv, e = .returned (ptr m) ∧ MemAt B w' m a lv (freshW s k pn L) [] ∧ Keep0 w w' ∧ w.heap.size ≤ m ∧ w.heap.size ≤ a := by
  have hmm := mul_bd 100 22 (show (0 : Int) ≤ pn by omega) (by omega) (show 0 ≤ 6 + 2 * s by omega) (by omega)
  have hlz := hlb
  have hlzs := lts hlb
  go_enter Try.func32, Try.ntmps32
  go_wp2_with fail
  refine (plan_Size t s g l r k PA pn pc (some ⟨lb, lo, none⟩) ln lc _ hs0 hs1 hk0 (by omega) (by omega)).mono ?_
  rintro e w1 ⟨rfl, hk1'⟩
  have HK1 : Hid (Keep0 w w1) := hid (Keep0.step (by repeat (with_reducible first | exact Keep.refl _ _ | apply Keep.alloc | apply Keep.drewN | apply Keep.drew)) hk1')
  have HCB := hid (hk1'.blk (Blk.made (b := w.heap.size) (w := w) (t := 24) (cs := [i64 t, i64 s, i64 g, i64 l, i64 r, i64 k, .slice PA pn pc, .slice (some ⟨lb, lo, none⟩) ln lc]) rfl rfl) (fun h => h))
  clear hk1'
  go_wp2_with fail
  refine (mem_New B _ _ (Nat.le_trans hB HK1.out.size) (by omega) (by omega)).mono ?_
  rintro e w2 ⟨m, a, lv, rfl, hm, hk2, hzm, hza⟩
  have HCB2 := hid (hk2.blk HCB.out (fun h => h))
  have HK2 : Hid (Keep0 w w2) := hid (Keep0.step HK1.out hk2)
  have HM := hid hm
  have hzm' := Nat.le_trans HK1.out.size hzm
  have hza' := Nat.le_trans HK1.out.size hza
  have hcba : w.heap.size < a := Nat.lt_of_lt_of_le HCB.out.lt hza
  clear HCB hm hk2 hzm hza
  have cbs := HCB2.out.k8
  go_wp2_with fail
  have HA0 : Hid (Keep0 w2 (w2.alloc (.cells #[ptr m] 29))) := hid ((Keep.refl _ _).alloc _)
  have HMB := hid (Blk.made (b := w2.heap.size) (w := w2) (t := 29) (cs := [ptr m]) rfl rfl)
  have HCB3 := hid (HCB2.out.alloc (.cells #[ptr m] 29))
  have HM3 := hid (HM.out.same HA0.out)
  go_loopw [13] (fun v wr => ∃ i : Nat, i ≤ pn ∧ v = .int .i64 i ∧ MemAt B wr m a lv (layN s L i (List.replicate (pn * (6 + 2 * s) + 2 * k).toNat 0)) [] ∧ Keep (fun k => k = a) (w2.alloc (.cells #[ptr m] 29)) wr) (fun v _ => pn - (intOf v).toNat)
  case atStart => exact ⟨0, Nat.zero_le _, rfl, HM3.out, Keep.refl _ _⟩
  case round =>
    obtain ⟨i, hi, rfl, hmi, hki⟩ := hrel
    have HMI := hid hmi
    have HKI := hid hki
    clear hmi hki
    have HBL := hid (HKI.out.blk HMB.out (by have := HM.out.words.lt; omega))
    have HCL := hid (HKI.out.blk HCB3.out (by omega))
    by_cases hlt : i < pn
    · have hx : wr.cell? ⟨lb, lo + (i : Int).toNat, none⟩ = some (i64 (rd L i)) := by
        have hz2 : lb < w2.heap.size := Nat.lt_of_lt_of_le hlb HK2.out.size
        rw [cell_old HKI.out (by simp; omega) (by omega), cell_old HA0.out hz2 (fun h => h), cell_old HK2.out hlb (fun h => h), Int.toNat_natCast]
        exact hL i hlt
      have hlen : ((i : Int) + 1) * (6 + 2 * s) ≤ (layN s L i (List.replicate (pn * (6 + 2 * s) + 2 * k).toNat 0)).length := by
        rw [layN_length, List.length_replicate]
        have h1 : ((i : Int) + 1) * (6 + 2 * s) ≤ (pn : Int) * (6 + 2 * s) := Int.mul_le_mul_of_nonneg_right (by omega) (by omega)
        omega
      have HX := hid hx
      have HLEN := hid hlen
      clear hx hlen
      go_wp2_with fail
      refine (fresh1 B _ m a w2.heap.size w.heap.size lb lo lv _ [] t s g l r k PA pn pc ln lc i (rd L i) HMI.out HBL.out HCL.out (by omega) HX.out hs0 hs1 (by omega) (by omega) (by omega) HLEN.out).mono ?_
      rintro e w4 ⟨rfl, hm4, hk4⟩
      have HM4 := hid hm4
      have HK4 := hid (HKI.out.trans hk4 (fun _ _ h => h))
      clear hm4 hk4
      go_wp2_with fail
      go_roundw
      case rel => exact ⟨i + 1, by omega, by go_num, HM4.out, HK4.out⟩
      case measure => simp [intOf]; omega
    · have hie : i = pn := by omega
      have HF := hid (show layN s L i (List.replicate (pn * (6 + 2 * s) + 2 * k).toNat 0) = freshW s k pn L by rw [hie]; rfl)
      clear hie
      have mbs := HBL.out.k1
      go_wp2_with fail
      go_ret
      refine ⟨m, a, lv, rfl, HF.out ▸ HMI.out, (Keep0.step HK2.out HA0.out).trans (T := fun k => k = a) HKI.out ?_ |>.mono (fun _ h => h), hzm', hza'⟩
      rintro k hk rfl
      omega
end Go.Proofs.Ytjloccnbcgkmgaa
