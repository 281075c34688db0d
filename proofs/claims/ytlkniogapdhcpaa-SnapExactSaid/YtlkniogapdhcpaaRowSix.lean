/- How a counter, as the laws of layer 6 take it, is handed in; rows of bools. -/
import Derived.Test.YtlkniogapdhcpaaRowMany
import Derived.Deep.Grids
namespace Go.Proofs.Ytlkniogapdhcpaa
open Go.ChangeShapes Go.WideShapes Go.ChangeAt Go.RowKit Go.Deep
set_option linter.unusedVariables false
set_option linter.unusedSimpArgs false
set_option maxRecDepth 100000
/-- a counter as it is handed in -/
def CounterIn (w : World) (v : Value) : Prop := ∃ (ba sr ga gl li : Int) (VA : Option Addr) (V : List Int) (vc : Nat) (UA : Option Addr) (U : List Int) (uc : Nat),
  v = .agg #[.int .u8 ba, .int .u8 sr, .int .u16 ga, .int .i32 gl, .int .u8 li, .slice VA V.length vc, .slice UA U.length uc] ∧
  (0 ≤ ba ∧ ba ≤ 255) ∧ (0 ≤ sr ∧ sr ≤ 255) ∧ (0 ≤ ga ∧ ga ≤ 65535) ∧ (-2147483648 ≤ gl ∧ gl ≤ 2147483647) ∧ (0 ≤ li ∧ li ≤ 255) ∧
  KsAt .u32 w VA V ∧ V.length ≤ 9223372036854775807 ∧ (∀ i, i < V.length → 0 ≤ rd V i ∧ rd V i ≤ 4294967295) ∧ KsAt .i32 w UA U ∧ U.length ≤ 9223372036854775807 ∧ (∀ i, i < U.length → -2147483648 ≤ rd U i ∧ rd U i ≤ 2147483647)
def BsAt (w : World) (A : Option Addr) (n : Nat) (f : Nat → Bool) : Prop := n = 0 ∨ ∃ b o, A = some ⟨b, o, none⟩ ∧ ∀ i, i < n → w.cell? ⟨b, o + i, none⟩ = some (.bool (f i))
def BsIn (w : World) (v : Value) (n : Nat) (f : Nat → Bool) : Prop := ∃ A c, v = .slice A n c ∧ n ≤ 9223372036854775807 ∧ BsAt w A n f
theorem BsAt.keep {w w' : World} {A : Option Addr} {n : Nat} {f : Nat → Bool} (h : BsAt w A n f) (hk : Keep0 w w') : BsAt w' A n f := by
  rcases h with h | ⟨b, o, e1, h⟩
  · exact Or.inl h
  · refine Or.inr ⟨b, o, e1, fun i hi => ?_⟩
    rw [cell_old hk (World.block_lt_of_cell? _ _ (h i hi)) (fun x => x)]
    exact h i hi
theorem BsAt.cell {w : World} {A : Option Addr} {n : Nat} {f : Nat → Bool} (h : BsAt w A n f) (hl : 0 < n) : ∃ b o, A = some ⟨b, o, none⟩ ∧ (∀ i, i < n → w.cell? ⟨b, o + i, none⟩ = some (.bool (f i))) := by
  rcases h with rfl | h
  · omega
  · exact h
section
variable {H : Type} {enc : TypeId × Value → H} {w : World} {base : Nat}
theorem u32s_cells6 {fuel : Nat} {cs : List Value} {x : DataW H × List MemPlace} (h : DataW.trod enc Try.prog w base (fun _ => true) true fuel 23 cs = some x) :
    ∃ A l c, cs = [.slice A (List.length l) c] ∧ l.length ≤ 9223372036854775807 ∧ KsAt .u32 w A l ∧ (∀ i, i < l.length → 0 ≤ rd l i ∧ rd l i ≤ 4294967295) := by
  rcases open_ints Try.underlying23 Try.underlying75 (by kernel_rfl) h with ⟨hcs, _⟩ | ⟨a, len, cap, zs, hcs, _, hl, hm, hz, _, hcell, hwf⟩
  · exact ⟨none, [], 0, hcs, by simp, Or.inl rfl, by simp⟩
  · simp only [if_true] at hz
    have hlen : (zs.take len).length = len := by rw [List.length_take]; omega
    refine ⟨some a, zs.take len, cap, by rw [hlen]; exact hcs, by rw [hlen]; unfold maxLen at hm; omega, ?_, ?_⟩
    · by_cases h0 : len = 0
      · left; subst h0; rfl
      · right
        have hc0 := hcell 0 (by omega)
        have hsp : a.spot = none := by
          unfold World.cell? at hc0
          cases hs : a.spot with
          | none => rfl
          | some x => simp [Addr.add, hs] at hc0; split at hc0 <;> simp_all
        obtain ⟨b, o, sp⟩ := a
        simp only at hsp
        subst hsp
        refine ⟨b, o, rfl, fun i hi => ?_⟩
        rw [hlen] at hi
        have hc := hcell i (by omega)
        have e : (⟨b, o, none⟩ : Addr).add i = ⟨b, o + i, none⟩ := by unfold Addr.add; split <;> simp_all
        rw [e] at hc
        rw [hc]
        simp [rd, List.getD, List.getElem?_take, hi]
    · intro i hi
      rw [hlen] at hi
      have e : rd (zs.take len) i = zs[i]'(by omega) := by simp [rd, List.getD, List.getElem?_take, hi]; rw [List.getElem?_eq_getElem (by omega)]; rfl
      rw [e]
      exact bounds_u32 (hwf _ (List.getElem_mem _))

theorem i32s_cells6 {fuel : Nat} {cs : List Value} {x : DataW H × List MemPlace} (h : DataW.trod enc Try.prog w base (fun _ => true) true fuel 24 cs = some x) :
    ∃ A l c, cs = [.slice A (List.length l) c] ∧ l.length ≤ 9223372036854775807 ∧ KsAt .i32 w A l ∧ (∀ i, i < l.length → -2147483648 ≤ rd l i ∧ rd l i ≤ 2147483647) := by
  rcases open_ints Try.underlying24 Try.underlying21 (by kernel_rfl) h with ⟨hcs, _⟩ | ⟨a, len, cap, zs, hcs, _, hl, hm, hz, _, hcell, hwf⟩
  · exact ⟨none, [], 0, hcs, by simp, Or.inl rfl, by simp⟩
  · simp only [if_true] at hz
    have hlen : (zs.take len).length = len := by rw [List.length_take]; omega
    refine ⟨some a, zs.take len, cap, by rw [hlen]; exact hcs, by rw [hlen]; unfold maxLen at hm; omega, ?_, ?_⟩
    · by_cases h0 : len = 0
      · left; subst h0; rfl
      · right
        have hc0 := hcell 0 (by omega)
        have hsp : a.spot = none := by
          unfold World.cell? at hc0
          cases hs : a.spot with
          | none => rfl
          | some x => simp [Addr.add, hs] at hc0; split at hc0 <;> simp_all
        obtain ⟨b, o, sp⟩ := a
        simp only at hsp
        subst hsp
        refine ⟨b, o, rfl, fun i hi => ?_⟩
        rw [hlen] at hi
        have hc := hcell i (by omega)
        have e : (⟨b, o, none⟩ : Addr).add i = ⟨b, o + i, none⟩ := by unfold Addr.add; split <;> simp_all
        rw [e] at hc
        rw [hc]
        simp [rd, List.getD, List.getElem?_take, hi]
    · intro i hi
      rw [hlen] at hi
      have e : rd (zs.take len) i = zs[i]'(by omega) := by simp [rd, List.getD, List.getElem?_take, hi]; rw [List.getElem?_eq_getElem (by omega)]; rfl
      rw [e]
      exact bounds_i32 (hwf _ (List.getElem_mem _))

theorem bools_open {r0 : Reach} {b0 : Nat} {v : Value} {d : DataW H} {p : List MemPlace} (hv : Value.okWide Try.prog w r0 b0 69 v) (h0 : DataW.Trod enc Try.prog w base (fun _ => true) true 69 v d p) : ∃ n f, BsIn w v n f := by
  obtain ⟨A, n, c, rfl⟩ := okWide_slice Try.underlying69 hv
  obtain ⟨fuel, h⟩ := h0
  rcases open_bools Try.underlying69 Try.underlying4 (by kernel_rfl) h with ⟨hcs, _⟩ | ⟨a, len, cap, f, hcs, _, hl, hm, _, hcell⟩
  · simp only [Value.cells, List.cons.injEq, and_true] at hcs
    cases hcs
    exact ⟨0, fun _ => false, none, 0, rfl, by simp, Or.inl rfl⟩
  · simp only [Value.cells, List.cons.injEq, and_true] at hcs
    obtain ⟨rfl, rfl, rfl⟩ : A = some a ∧ n = len ∧ c = cap := by cases hcs; exact ⟨rfl, rfl, rfl⟩
    refine ⟨n, f, some a, c, rfl, by unfold maxLen at hm; omega, ?_⟩
    by_cases h0 : n = 0
    · exact Or.inl h0
    · right
      have hc0 := hcell 0 (by omega)
      have hsp : a.spot = none := by
        unfold World.cell? at hc0
        cases hs : a.spot with
        | none => rfl
        | some x => simp [Addr.add, hs] at hc0; split at hc0 <;> simp_all
      obtain ⟨b, o, sp⟩ := a
      simp only at hsp
      subst hsp
      refine ⟨b, o, rfl, fun i hi => ?_⟩
      have hc := hcell i (by omega)
      have e : (⟨b, o, none⟩ : Addr).add i = ⟨b, o + i, none⟩ := by unfold Addr.add; split <;> simp_all
      rw [e] at hc
      exact hc

theorem counter_open {r0 : Reach} {b0 : Nat} {v : Value} {d : DataW H} {p : List MemPlace} (hv : Value.okWide Try.prog w r0 b0 26 v) (h0 : DataW.Trod enc Try.prog w base (fun _ => true) true 26 v d p) : CounterIn w v := by
  obtain ⟨cs, rfl, hsz⟩ := okWide_struct Try.underlying26 hv
  obtain ⟨fuel, h⟩ := h0
  obtain ⟨xs, n, _, _, hlen, hxl, hf⟩ := DataW.trod_struct Try.underlying26 h
  have hs14 : cs.size = 7 := hsz.trans (by kernel_rfl)
  obtain ⟨cs⟩ := cs
  simp only [Value.cells] at *
  obtain ⟨c0, c1, c2, c3, c4, c5, c6, rfl⟩ : ∃ c0 c1 c2 c3 c4 c5 c6, cs = [c0, c1, c2, c3, c4, c5, c6] := by
    match cs, hs14 with
    | [c0, c1, c2, c3, c4, c5, c6], _ => exact ⟨_, _, _, _, _, _, _, rfl⟩
  obtain ⟨y0, y1, y2, y3, y4, y5, y6, rfl⟩ : ∃ y0 y1 y2 y3 y4 y5 y6, xs = [y0, y1, y2, y3, y4, y5, y6] := by
    match xs, hxl with
    | [c0, c1, c2, c3, c4, c5, c6], _ => exact ⟨_, _, _, _, _, _, _, rfl⟩
  have z0 : Try.prog.cellsOf 5 = 1 := by kernel_rfl
  have z1 : Try.prog.cellsOf 22 = 1 := by kernel_rfl
  have z2 : Try.prog.cellsOf 21 = 1 := by kernel_rfl
  have z3 : Try.prog.cellsOf 23 = 1 := by kernel_rfl
  have z4 : Try.prog.cellsOf 24 = 1 := by kernel_rfl
  have f0 := hf 0 _ rfl
  have f1 := hf 1 _ rfl
  have f2 := hf 2 _ rfl
  have f3 := hf 3 _ rfl
  have f4 := hf 4 _ rfl
  have f5 := hf 5 _ rfl
  have f6 := hf 6 _ rfl
  simp [z0, z1, z2, z3, z4] at f0 f1 f2 f3 f4 f5 f6
  obtain ⟨ba, e0, _, w0⟩ := DataW.trod_int Try.underlying5 f0
  obtain ⟨sr, e1, _, w1⟩ := DataW.trod_int Try.underlying5 f1
  obtain ⟨ga, e2, _, w2⟩ := DataW.trod_int Try.underlying22 f2
  obtain ⟨gl, e3, _, w3⟩ := DataW.trod_int Try.underlying21 f3
  obtain ⟨li, e4, _, w4⟩ := DataW.trod_int Try.underlying5 f4
  obtain ⟨VA, V, vc, e5, hv1, hV, hv2⟩ := u32s_cells6 f5
  obtain ⟨UA, U, uc, e6, hu1, hU, hu2⟩ := i32s_cells6 f6
  simp only [List.cons.injEq, and_true] at e0 e1 e2 e3 e4 e5 e6
  subst e0 e1 e2 e3 e4 e5 e6
  exact ⟨ba, sr, ga, gl, li, VA, V, vc, UA, U, uc, rfl, bounds_u8 w0, bounds_u8 w1, bounds_u16 w2, bounds_i32 w3, bounds_u8 w4, hV, hv1, hv2, hU, hu1, hu2⟩
end
end Go.Proofs.Ytlkniogapdhcpaa
