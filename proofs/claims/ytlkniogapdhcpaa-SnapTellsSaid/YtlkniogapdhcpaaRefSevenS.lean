/- breadlineref07: Count, Peek, Step, Ans, machines that are played. -/
import Derived.Test.YtlkniogapdhcpaaRefSevenB
import Derived.Test.YtlkniogapdhcpaaRefPlaySeven
import Derived.Test.YtlkniogapdhcpaaSnapCC
namespace Go.Proofs.Ytlkniogapdhcpaa
open Go.RowKit
set_option linter.unusedVariables false
set_option linter.unusedSimpArgs false
set_option maxRecDepth 100000
section
variable {B : Nat} {w : World} {m y : Nat} {A Ag : Option Addr} {ca : Nat} {lv : Value} {b s : Nat}
theorem r7_over {pk : Bool} (t : SN) (hm : RefAt B w m A ca lv t.W t.L) (hy : R7 b s pk w y Ag t) (hR : ∀ k, RS y Ag k → ¬ RF m A lv k) (hf : t.fin = true) :
    Calls Try.prog 38 #[ptr y, ptr m] w fun e w' => e = .returned (.bool true) ∧ R7P B w m y A Ag lv b s pk t w' := by
  obtain ⟨c, n, h1, _, _⟩ := hy.at_
  have h2 := h1
  unfold r7cs at h2
  rw [hf] at h2
  refine (r7_step_end (m := m) h2).mono ?_
  rintro e w' ⟨rfl, rfl⟩
  exact ⟨rfl, A, ca, lv, Ag, hm, hy, hR, Keep.refl _ _, fun _ h => Or.inl h, fun _ h => Or.inl h, fun _ h => Or.inl h⟩
theorem r7_Count_Step (t : SN) (hm : RefAt B w m A ca lv t.W t.L) (hy : R7 b s false w y Ag t) (hR : ∀ k, RS y Ag k → ¬ RF m A lv k) (hi : NInv b s t) (hb : b ≤ 1000000) (hL : t.L.length ≤ 1000000000) :
    Calls Try.prog 38 #[ptr y, ptr m] w fun e w' => e = .returned (.bool (nStp b s t).2) ∧ R7P B w m y A Ag lv b s false (nStp b s t).1 w' := by
  show Calls _ _ _ _ (fun e w' => e = .returned (.bool (nNext b s t).fin) ∧ R7P B w m y A Ag lv b s false (nNext b s t) w')
  cases hf : t.fin with
  | false => exact r7_count hm hy hf hR hi hb hL
  | true =>
    rw [nNext_over hf, hf]
    exact r7_over t hm hy hR hf
theorem r7_Peek_Step (t : SN) (hm : RefAt B w m A ca lv t.W t.L) (hy : R7 b s true w y Ag t ∧ Ag = none) (hR : ∀ k, RS y Ag k → ¬ RF m A lv k) (hi : GInv b t) (hL : t.L.length ≤ 1000000000) :
    Calls Try.prog 38 #[ptr y, ptr m] w fun e w' => e = .returned (.bool (gStp b t).2) ∧ R7P B w m y A Ag lv b s true (gStp b t).1 w' := by
  show Calls _ _ _ _ (fun e w' => e = .returned (.bool (gNext b t).fin) ∧ R7P B w m y A Ag lv b s true (gNext b t) w')
  cases hf : t.fin with
  | false =>
    have e1 : (gNext b t).fin = true := by unfold gNext; rw [if_neg (by rw [hf]; decide)]
    rw [e1]
    exact r7_peek hm hy.1 hf hR hi.1 (hi.2 hf).2 hL hy.2
  | true =>
    rw [gNext_over hf, hf]
    exact r7_over t hm hy.1 hR hf
set_option maxHeartbeats 400000 in
theorem r7_Ans {pk : Bool} (t : SN) (hy : R7 b s pk w y Ag t) : Calls Try.prog 22 #[ptr y] w (Ret (.agg #[i64 0, i64 t.n, .bool t.ex, i64 0]) w) := by
  obtain ⟨c, n, h1, _, _⟩ := hy.at_
  have qy := (show Blk w y 88 [i64 (b : Int), i64 (s : Int), i64 t.left, .bool pk, .slice Ag n c, i64 0, i64 t.n, .bool t.ex, i64 0, .bool t.fin] from h1).k10
  clear h1 hy
  go_enter Try.func22, Try.ntmps22
  go_wp2
  exact bodyPost_ret (v := .agg #[i64 0, i64 t.n, .bool t.ex, i64 0]) (by simp [results, Try.results22, go_sem]) rfl ⟨rfl, (Keep.refl _ _).alloc _⟩
set_option maxHeartbeats 400000 in
theorem r7_Count (r : Int) (w : World) :
    Calls Try.prog 19 #[i64 (b : Int), i64 (s : Int), i64 r] w fun e w' => ∃ y, e = .returned (ptr y) ∧ w.heap.size ≤ y ∧ Keep0 w w' ∧ ∀ W L, R7 b s false w' y none ⟨W, L, r, [], 0, false, false⟩ := by
  go_enter Try.func19, Try.ntmps19
  go_wp2_with fail
  go_ret
  exact ⟨_, rfl, Nat.le_refl _, (Keep.refl _ _).alloc _, fun W L => ⟨0, 0, Blk.made rfl rfl, fun _ => ⟨rfl, World.ownsRow_nil _ _ _ _⟩, fun h => by cases h⟩⟩
set_option maxHeartbeats 400000 in
theorem r7_Peek (w : World) :
    Calls Try.prog 23 #[i64 (b : Int)] w fun e w' => ∃ y, e = .returned (ptr y) ∧ w.heap.size ≤ y ∧ Keep0 w w' ∧ ∀ W L, R7 b 0 true w' y none ⟨W, L, 0, [], 0, false, false⟩ := by
  go_enter Try.func23, Try.ntmps23
  go_wp2_with fail
  go_ret
  exact ⟨_, rfl, Nat.le_refl _, (Keep.refl _ _).alloc _, fun W L => ⟨0, 0, Blk.made rfl rfl, fun _ => ⟨rfl, World.ownsRow_nil _ _ _ _⟩, fun _ => rfl⟩⟩
end
end Go.Proofs.Ytlkniogapdhcpaa
