/- Contracts and plain laws for UsageWay, part 15: what the walk of the law leans on. -/
import Derived.Test.YthaceckccobgeaaGreatZUsageWay5
import Derived.Test.YthaceckccobgeaaGreatZUsageWay14
namespace Go.Proofs.YthaceckccobgeaaGreat
open Go.RowKit
set_option linter.unusedVariables false
set_option linter.unusedSimpArgs false
def Calm12 (p : P12) (W : List Int) : Prop := ∀ u, u < p.P.length → rd W (p.li u) = rd p.LL u ∧ leftN W (p.av u) p.s + usedN p.P W p.q p.K u = rd p.LL u
theorem Calm12.of13 {tt : Int} {s : Nat} {g lm r : Int} {K : Nat} {P L : List Int} {x y : Int} {i j : Nat} {W : List Int} (h : Calm12 (p13 tt s g lm r K P L x i) W) : Calm12 (p13 tt s g lm r K P L y j) W := h
section
variable {p : P12} {X : Int} {W0 : List Int}
theorem Calm12.run (hp : P12OK p) (hr : ParR p.P) (hpath : p.path = pathN p.P p.nd) (hw : WOK p X W0) (h : Calm12 p W0) (L : List Acc) (n : Nat) (hn : 259 ≤ n) (hX : X + (n : Int) * 1048576 ≤ 2199023255552) :
 (go12 p (start12 p W0 L) n).ph = 6 ∧ Calm12 p (go12 p (start12 p W0 L) n).W := by
 have hnd : p.path.Nodup := by rw [hpath]; exact pathN_nodup hr _ hp.nd1
 have h6 := go12_done hp (L := L) hw n hn (by omega)
 have hR := go12_R hp hnd (R12.start hp hw L) n hX
 refine ⟨h6, fun u hu => ?_⟩
 obtain ⟨h1, h2⟩ := h u hu
 have h3 := hR.sum hp hpath u hu
 rw [hold12_end h6 u] at h3
 rw [hR.limit hp u hu hp.s8.2, h1]
 exact ⟨rfl, by omega⟩
end
section
variable {tt : Int} {s : Nat} {g lm r : Int} {K : Nat} {P L X : List Int} {W0 : List Int}
theorem z13_calm (h : Set12 s g lm K P L) {M : Nat} (hM : 259 ≤ M ∧ M ≤ 3000) (hw : ∀ (x : Int) (i : Nat), WOK (p13 tt s g lm r K P L x i) 1099511627776 W0) (hc : ∀ (x : Int) (i : Nat), Calm12 (p13 tt s g lm r K P L x i) W0) (i : Nat) : i ≤ 4 → ∀ x j, Calm12 (p13 tt s g lm r K P L x j) (z13 tt s g lm r K P L X W0 M i).1 := by
 induction i with
 | zero => intro _; exact hc
 | succ i ih =>
  intro hi x j
  have hp := h.ok (tt := tt) (r := r) (rd X i) i (by omega)
  have hok := (z13_ok (X := X) h hM.2 hw (by omega) i (by omega)).1 (rd X i) i
  have h1 := Calm12.run hp h.pr rfl hok (ih (by omega) (rd X i) i) (z13 tt s g lm r K P L X W0 M i).2.1 M hM.1 (by omega)
  rw [z13]
  dsimp only
  exact h1.2.of13
end
section
theorem fresh_lim (s : Int) (hs : 1 ≤ s) (L : List Int) (n N : Nat) (v : Nat) (c : Int) (hc : c = 0 ∨ c = 1) (hv : v < n) (hN : (v + 1 : Int) * (6 + 2 * s) ≤ N) : rd (layN s L n (List.replicate N 0)) ((v : Int) * (6 + 2 * s) + c).toNat = rd L v := by
 induction n with
 | zero => omega
 | succ n ih =>
  have hE : 0 ≤ 6 + 2 * s := by omega
  have h0 : 0 ≤ (v : Int) * (6 + 2 * s) := Int.mul_nonneg (by omega) hE
  have h0n : 0 ≤ (n : Int) * (6 + 2 * s) := Int.mul_nonneg (by omega) hE
  rw [Int.add_mul, Int.one_mul] at hN
  rw [layN, layW, rd_set]
  by_cases e : v = n
  · subst e
    rw [if_neg (by omega), rd_set]
    rcases hc with rfl | rfl
    · rw [if_neg (by omega), rd_set, if_pos ⟨by omega, by rw [layN_length, List.length_replicate]; omega⟩]
    · rw [if_pos ⟨rfl, by rw [List.length_set, layN_length, List.length_replicate]; omega⟩]
  · have h1 : v < n → ((v : Int) + 1) * (6 + 2 * s) ≤ (n : Int) * (6 + 2 * s) := fun h => Int.mul_le_mul_of_nonneg_right (by omega) hE
    have h1 := h1 (by omega)
    rw [Int.add_mul, Int.one_mul] at h1
    rw [if_neg (by omega), rd_set, if_neg (by omega), rd_set, if_neg (by omega)]
    exact ih (by omega)
theorem fresh_tail (s : Int) (hs : 1 ≤ s) (L : List Int) (n N i : Nat) (hi : (n : Int) * (6 + 2 * s) ≤ i) : rd (layN s L n (List.replicate N 0)) i = 0 := by
 induction n with
 | zero =>
  unfold rd
  rw [layN, List.getD_eq_getElem?_getD, List.getElem?_replicate]
  split <;> rfl
 | succ n ih =>
  have hE : 0 ≤ 6 + 2 * s := by omega
  have h0n : 0 ≤ (n : Int) * (6 + 2 * s) := Int.mul_nonneg (by omega) hE
  rw [Int.natCast_succ, Int.add_mul, Int.one_mul] at hi
  rw [layN, layW, rd_set, if_neg (by omega), rd_set, if_neg (by omega), rd_set, if_neg (by omega)]
  exact ih (by omega)
theorem busyN_rd (W : List Int) (q : Nat) (f : Nat → Bool) (i : Nat) : ∀ n, rd (busyN W q f n) i = rd W i ∨ (q ≤ i ∧ rd (busyN W q f n) i = 4294967297)
 | 0 => Or.inl rfl
 | n + 1 => by
  rw [busyN]
  split
  · rw [rd_set]
    split
    · rename_i h; exact Or.inr ⟨by omega, rfl⟩
    · exact busyN_rd W q f i n
  · exact busyN_rd W q f i n
variable {p : P12}
theorem Calm12.words (hp : P12OK p) (nb : Nat) (f : Nat → Bool) : Calm12 p (words12 p.s p.K p.P p.LL nb f []) := by
 have hs := hp.s8
 have e0 : words12 p.s p.K p.P p.LL nb f [] = busyN (freshW (p.s : Int) (p.K : Int) p.P.length p.LL) p.q f (min nb p.K) := by
  unfold words12
  rw [show min ([] : List Int).length p.P.length = 0 from by simp]
  rfl
 rw [e0]
 intro u hu
 have hlq : p.ct u + 4 + p.s ≤ p.q := hp.ct_lt hu
 have hac := av_ctlt hs.1 u
 have hla : p.av u = p.li u + 1 := rfl
 have hm : ((u : Int) + 1) * (6 + 2 * (p.s : Int)) ≤ (p.P.length : Int) * (6 + 2 * (p.s : Int)) := Int.mul_le_mul_of_nonneg_right (by omega) (by omega)
 have h0 : 0 ≤ (u : Int) * (6 + 2 * (p.s : Int)) := Int.mul_nonneg (by omega) (by omega)
 have low : ∀ i, i < p.q → rd (busyN (freshW (p.s : Int) (p.K : Int) p.P.length p.LL) p.q f (min nb p.K)) i = rd (freshW (p.s : Int) (p.K : Int) p.P.length p.LL) i := fun i hi => by
  rcases busyN_rd (freshW (p.s : Int) (p.K : Int) p.P.length p.LL) p.q f i (min nb p.K) with h | h
  · exact h
  · omega
 have hli : (p.li u : Int) = (u : Int) * (6 + 2 * (p.s : Int)) := by unfold P12.li; push_cast; rfl
 have f0 : rd (freshW (p.s : Int) (p.K : Int) p.P.length p.LL) (p.li u) = rd p.LL u := by
  have h := fresh_lim (p.s : Int) (by omega) p.LL p.P.length (p.P.length * (6 + 2 * (p.s : Int)) + 2 * (p.K : Int)).toNat u 0 (Or.inl rfl) hu (by omega)
  rw [show ((u : Int) * (6 + 2 * (p.s : Int)) + 0).toNat = p.li u from by omega] at h
  exact h
 have f1 : rd (freshW (p.s : Int) (p.K : Int) p.P.length p.LL) (p.av u) = rd p.LL u := by
  have h := fresh_lim (p.s : Int) (by omega) p.LL p.P.length (p.P.length * (6 + 2 * (p.s : Int)) + 2 * (p.K : Int)).toNat u 1 (Or.inr rfl) hu (by omega)
  rw [show ((u : Int) * (6 + 2 * (p.s : Int)) + 1).toNat = p.av u from by omega] at h
  exact h
 have f2 : ∀ j, j < p.s → rd (freshW (p.s : Int) (p.K : Int) p.P.length p.LL) (p.av u + 1 + j) = 0 := fun j hj =>
  fresh13_lease (p.s : Int) (by omega) p.LL p.P.length _ (p.av u + 1 + j) (u : Int) (j : Int) (by omega) (by omega) (by omega)
 refine ⟨by rw [low _ (by omega)]; exact f0, ?_⟩
 have hleft : ∀ n, n ≤ p.s → leftN (busyN (freshW (p.s : Int) (p.K : Int) p.P.length p.LL) p.q f (min nb p.K)) (p.av u) n = rd p.LL u := by
  intro n
  induction n with
  | zero => intro _; rw [leftN, low _ (by omega)]; exact f1
  | succ n ih => intro hn; rw [leftN, ih (by omega), low _ (by omega), f2 n (by omega)]; omega
 rw [hleft p.s (Nat.le_refl _)]
 have hq : (p.P.length : Int) * (6 + 2 * (p.s : Int)) = (p.q : Int) := by unfold P12.q; push_cast; rfl
 have hused : usedN p.P (busyN (freshW (p.s : Int) (p.K : Int) p.P.length p.LL) p.q f (min nb p.K)) p.q p.K u = 0 := by
  unfold usedN
  rw [sumF_congr (g := fun _ => 0) _ (fun k hk => useT_no ?_), sumF_zero]
  rcases busyN_rd (freshW (p.s : Int) (p.K : Int) p.P.length p.LL) p.q f (p.q + 2 * k) (min nb p.K) with h | ⟨_, h⟩
  · have ft : rd (freshW (p.s : Int) (p.K : Int) p.P.length p.LL) (p.q + 2 * k) = 0 := fresh_tail (p.s : Int) (by omega) p.LL p.P.length _ (p.q + 2 * k) (by omega)
    rw [h, ft, show st10 (0 : Int) = 0 from by kernel_rfl]; omega
  · rw [h, show st10 (4294967297 : Int) = 1 from by kernel_rfl]; omega
 rw [hused]
 omega
end
end Go.Proofs.YthaceckccobgeaaGreat

namespace Go.Proofs.YthaceckccobgeaaGreat
open Go.RowKit
set_option linter.unusedVariables false
set_option linter.unusedSimpArgs false
set_option maxRecDepth 100000
set_option maxHeartbeats 2000000 in
theorem ref_Under (t s g l r k : Int) (P : List Int) (pb po pc : Nat) (LA : Option Addr) (ln lc : Nat) (a b : Nat) (w : World) (hp : P.length ≤ 1000) (ho : ParOK P) (ha : a < P.length) (hP : ∀ i, i < P.length → w.cell? ⟨pb, po + i, none⟩ = some (i64 (rd P i))) :
 Calls Tryz.prog 14 #[.agg #[i64 t, i64 s, i64 g, i64 l, i64 r, i64 k, .slice (some ⟨pb, po, none⟩) P.length pc, .slice LA ln lc], i64 (a : Int), i64 (b : Int)] w (Ret (.bool (undP P a b)) w) := by
 have hpz : pb < w.heap.size := by have h := World.block_lt_of_cell? _ _ (hP a ha); simpa using h
 have HPA := hid (fun (w' : World) (hk : Keep0 w w') => ref_Path t s g l r k P pb po pc LA ln lc a w' hp (fun i hi => (cell_old hk hpz (fun h => h) _).trans (hP i hi)) ho ha)
 have hpl := (pathN_mem ho a ha).2
 have HU := hid (show undP P a b = decide (b ∈ pathN P a) from rfl)
 generalize pathN P a = p at *
 have hp1 : 0 < p.length := by omega
 have hp2 : p.length ≤ 1000 := by omega
 generalize undP P a b = ub at *
 clear hP ho hpl
 go_enter Tryz.func14, Tryz.ntmps14
 have HK0 : Hid (Keep0 w (w.alloc (.cells #[i64 t, i64 s, i64 g, i64 l, i64 r, i64 k, .slice (some ⟨pb, po, none⟩) P.length pc, .slice LA ln lc] 24))) := hid ((Keep.refl _ _).alloc _)
 go_wp2_with fail
 refine (HPA.out _ HK0.out).mono ?_
 rintro e w1 ⟨⟨A, c⟩, rfl, R, hr, hk, _⟩
 obtain ⟨rb, e1, hrz, hcl⟩ := rowO_cell hr hp1
 simp only at e1
 subst e1
 have HK1 : Hid (Keep0 w w1) := hid (Keep0.step HK0.out hk)
 have HC := hid (show ∀ i (h : i < p.length), w1.cell? ⟨rb, i, none⟩ = some (i64 (p[i] : Int)) from fun i h => by
  obtain ⟨_, e2, _, h2⟩ := rowO_cell hr h
  simp only [Option.some.injEq, Addr.mk.injEq] at e2
  obtain ⟨rfl, _⟩ := e2
  exact h2 _ (by simp [ints, nats, h]))
 clear hr hk hcl HK0 HPA
 go_wp2_with fail
 go_loopw [8] (fun v8 wr => ∃ i : Nat, i ≤ p.length ∧ v8 = .int .i64 i ∧ b ∉ p.take i ∧ Keep0 w1 wr) (fun v _ => p.length - (intOf v).toNat)
 case atStart => exact ⟨0, Nat.zero_le _, rfl, by simp, Keep.refl _ _⟩
 case round =>
  obtain ⟨i, hi, rfl, hno, hk⟩ := hrel
  have HK := hid hk
  clear hk
  by_cases hlt : i < p.length
  · have hc := (cell_old HK.out hrz (fun h => h) _).trans (HC.out i hlt)
    have hrz2 := Nat.lt_of_lt_of_le hrz HK.out.size
    have HN := hid (show b ∉ p.take (i + 1) ↔ ¬ b = p[i] from by rw [List.take_succ_eq_append_getElem hlt, List.mem_append, List.mem_singleton]; simp [hno])
    have HM := hid (show p[i] ∈ p from List.getElem_mem hlt)
    generalize p[i] = x at *
    clear hno
    by_cases e : x = b
    · subst e
      obtain rfl : ub = true := HU.out.trans (decide_eq_true HM.out)
      go_wp2_with fail
      go_ret
      exact ⟨rfl, HK1.out.trans HK.out (fun _ _ h => h)⟩
    · go_wp2_with fail
      go_roundw
      case rel => exact ⟨i + 1, by omega, by go_num, HN.out.2 (fun h => e h.symm), HK.out⟩
      case measure => simp [intOf]; omega
  · obtain rfl : i = p.length := by omega
    rw [List.take_length] at hno
    obtain rfl : ub = false := HU.out.trans (decide_eq_false hno)
    go_wp2_with fail
    go_ret
    exact ⟨rfl, HK1.out.trans HK.out (fun _ _ h => h)⟩
end Go.Proofs.YthaceckccobgeaaGreat
