/- package add: Sum. -/
import Derived.Test.YtlkniogapdhcpaaAddE
import Derived.Test.YtlkniogapdhcpaaWordsC
namespace Go.Proofs.Ytlkniogapdhcpaa
open Go.RowKit
set_option linter.unusedVariables false
set_option linter.unusedSimpArgs false
set_option maxRecDepth 100000
/-- the sum that Sum tells: the global word, and the stripes' values -/
def sumN (W : List Int) (b : Nat) : Nat → Int
  | 0 => rd W b
  | u + 1 => wrap64 (sumN W b u + pVal (rd W (b + 4 + u)))
section
variable {B : Nat} {w : World} {m a : Nat} {lv : Value} {W : List Int} {L0 : List Acc}
set_option maxHeartbeats 2000000 in
theorem add_Sum (b s : Nat) (hm : MemAt B w m a lv W L0) (hW : W.length ≤ 10000) (hin : b + 4 + s ≤ W.length) (hs1 : 1 ≤ s) :
    Calls Try.prog 26 #[ptr m, i64 (b : Int), i64 (s : Int)] w (Ret (i64 (sumN W b s)) w) := by
  have HM := hid hm
  clear hm
  go_enter Try.func26, Try.ntmps26
  go_wp2_with fail
  refine (mem_WordsC HM.out (by omega)).mono ?_
  rintro e w1 ⟨gb, gc, rfl, hi, hk, _, hgc⟩
  have HI := hid hi
  have HK1 : Hid (Keep0 w w1) := hid hk
  have c1 := HI.out.cell b (by omega)
  have z1 := HI.out.lt
  have e1 : (0 : Int) ≤ (b : Int) := by omega
  have e2 : (b : Int) ≤ (W.length : Int) := by omega
  have e3 : ¬ gc = b := by omega
  clear hi hk
  have e4 : (4 : Int) ≤ 4 + (s : Int) := by omega
  have e5 : 4 + (s : Int) ≤ ((gc - b : Nat) : Int) := by omega
  have e6 : ¬ gc - b = 4 := by omega
  have e7 : (4 + (s : Int)).toNat = 4 + s := by omega
  have e8 : (0 : Int) ≤ 4 + (s : Int) := by omega
  have e9 : 4 + s - 4 = s := by omega
  go_wp2_with fail
  go_loopw [8, 23] (fun v8 v31 wr => ∃ i : Nat, i ≤ s ∧ v31 = .int .i64 i ∧ v8 = .int .i64 (sumN W b i) ∧ Keep0 w1 wr) (fun _ v _ => s - (intOf v).toNat)
  case atStart => exact ⟨0, Nat.zero_le _, rfl, rfl, by repeat (with_reducible first | exact Keep.refl _ _ | apply Keep.alloc | apply Keep.drewN | apply Keep.drew)⟩
  case round =>
    obtain ⟨i, hi, rfl, rfl, hk⟩ := hrel
    have HK := hid hk
    have HIR := hid (hk.ints HI.out (fun h => h))
    clear hk
    by_cases hlt : i < s
    · have c1 := HIR.out.cell (b + 4 + i) (by omega)
      have z1 := HIR.out.lt
      have HN : Hid (sumN W b (i + 1) = wrap64 (sumN W b i + pVal (rd W (b + 4 + i)))) := hid rfl
      generalize sumN W b i = N at *
      generalize rd W (b + 4 + i) = y at *
      have hy : IntKind.i64.wrap (N + pVal y) = wrap64 (N + pVal y) := by rw [IntKind.wrap_i64, wrap64]
      go_wp2_with fail
      refine (pack_Value y _).mono ?_
      rintro e w2 ⟨rfl, rfl⟩
      go_wp2_with fail
      go_roundw
      case rel => exact ⟨i + 1, by omega, by go_num, by rw [HN.out], HK.out⟩
      case measure => simp [intOf]; omega
    · obtain rfl : i = s := by omega
      go_wp2_with fail
      go_ret
      exact ⟨rfl, HK1.out.trans HK.out (fun _ _ h => h)⟩
end
end Go.Proofs.Ytlkniogapdhcpaa
