/- How rows of small numbers are handed in. -/
import Derived.Test.YtlkniogapdhcpaaRowPool
namespace Go.Proofs.Ytlkniogapdhcpaa
open Go.ChangeShapes Go.WideShapes Go.ChangeAt Go.RowKit Go.Deep
set_option linter.unusedVariables false
set_option linter.unusedSimpArgs false
set_option maxRecDepth 100000

def KsAt (k : IntKind) (w : World) (A : Option Addr) (l : List Int) : Prop := l = [] ∨ ∃ b o, A = some ⟨b, o, none⟩ ∧ ∀ i, i < l.length → w.cell? ⟨b, o + i, none⟩ = some (.int k (rd l i))
def KsIn (k : IntKind) (w : World) (v : Value) (l : List Int) : Prop := ∃ A c, v = .slice A l.length c ∧ l.length ≤ 9223372036854775807 ∧ KsAt k w A l
theorem KsAt.keep {k : IntKind} {w w' : World} {A : Option Addr} {l : List Int} (h : KsAt k w A l) (hk : Keep0 w w') : KsAt k w' A l := by
  rcases h with h | ⟨b, o, e1, h⟩
  · exact Or.inl h
  · refine Or.inr ⟨b, o, e1, fun i hi => ?_⟩
    rw [cell_old hk (World.block_lt_of_cell? _ _ (h i hi)) (fun x => x)]
    exact h i hi
theorem KsAt.cell {k : IntKind} {w : World} {A : Option Addr} {l : List Int} (h : KsAt k w A l) (hl : 0 < l.length) : ∃ b o, A = some ⟨b, o, none⟩ ∧ (∀ i, i < l.length → w.cell? ⟨b, o + i, none⟩ = some (.int k (rd l i))) := by
  rcases h with rfl | h
  · simp at hl
  · exact h
section
variable {H : Type} {enc : TypeId × Value → H} {w : World} {base : Nat}
theorem u8s_open {r0 : Reach} {b0 : Nat} {v : Value} {d : DataW H} {p : List MemPlace} (hv : Value.okWide Try.prog w r0 b0 67 v) (h0 : DataW.Trod enc Try.prog w base (fun _ => true) true 67 v d p) : ∃ l, KsIn .u8 w v l ∧ ∀ i, i < l.length → 0 ≤ rd l i ∧ rd l i ≤ 255 := by
  obtain ⟨A, n, c, rfl⟩ := okWide_slice Try.underlying67 hv
  obtain ⟨fuel, h⟩ := h0
  rcases open_ints Try.underlying67 Try.underlying5 (by kernel_rfl) h with ⟨hcs, _⟩ | ⟨a, len, cap, zs, hcs, _, hl, hm, hz, _, hcell, hwf⟩
  · simp only [Value.cells, List.cons.injEq, and_true] at hcs
    cases hcs
    exact ⟨[], ⟨none, 0, rfl, by simp, Or.inl rfl⟩, by simp⟩
  · simp only [Value.cells, List.cons.injEq, and_true] at hcs
    obtain ⟨rfl, rfl, rfl⟩ : A = some a ∧ n = len ∧ c = cap := by cases hcs; exact ⟨rfl, rfl, rfl⟩
    simp only [if_true] at hz
    have hlen : (zs.take n).length = n := by rw [List.length_take]; omega
    refine ⟨zs.take n, ⟨some a, c, by rw [hlen], by rw [hlen]; unfold maxLen at hm; omega, ?_⟩, ?_⟩
    · by_cases h0 : n = 0
      · left; subst h0; rfl
      · right
        have hc0 := hcell 0 (by omega)
        have hsp : a.spot = none := by
          unfold World.cell? at hc0
          cases hs : a.spot with
          | none => rfl
          | some x => simp [Addr.add, hs] at hc0; split at hc0 <;> simp_all
        obtain ⟨b, o, sp⟩ := a
        simp only at hsp
        subst hsp
        refine ⟨b, o, rfl, fun i hi => ?_⟩
        rw [hlen] at hi
        have hc := hcell i (by omega)
        have e : (⟨b, o, none⟩ : Addr).add i = ⟨b, o + i, none⟩ := by unfold Addr.add; split <;> simp_all
        rw [e] at hc
        rw [hc]
        simp [rd, List.getD, List.getElem?_take, hi]
    · intro i hi
      rw [hlen] at hi
      have e : rd (zs.take n) i = zs[i]'(by omega) := by simp [rd, List.getD, List.getElem?_take, hi]; rw [List.getElem?_eq_getElem (by omega)]; rfl
      rw [e]
      exact bounds_u8 (hwf _ (List.getElem_mem _))

theorem i32s_open {r0 : Reach} {b0 : Nat} {v : Value} {d : DataW H} {p : List MemPlace} (hv : Value.okWide Try.prog w r0 b0 24 v) (h0 : DataW.Trod enc Try.prog w base (fun _ => true) true 24 v d p) : ∃ l, KsIn .i32 w v l ∧ ∀ i, i < l.length → -2147483648 ≤ rd l i ∧ rd l i ≤ 2147483647 := by
  obtain ⟨A, n, c, rfl⟩ := okWide_slice Try.underlying24 hv
  obtain ⟨fuel, h⟩ := h0
  rcases open_ints Try.underlying24 Try.underlying21 (by kernel_rfl) h with ⟨hcs, _⟩ | ⟨a, len, cap, zs, hcs, _, hl, hm, hz, _, hcell, hwf⟩
  · simp only [Value.cells, List.cons.injEq, and_true] at hcs
    cases hcs
    exact ⟨[], ⟨none, 0, rfl, by simp, Or.inl rfl⟩, by simp⟩
  · simp only [Value.cells, List.cons.injEq, and_true] at hcs
    obtain ⟨rfl, rfl, rfl⟩ : A = some a ∧ n = len ∧ c = cap := by cases hcs; exact ⟨rfl, rfl, rfl⟩
    simp only [if_true] at hz
    have hlen : (zs.take n).length = n := by rw [List.length_take]; omega
    refine ⟨zs.take n, ⟨some a, c, by rw [hlen], by rw [hlen]; unfold maxLen at hm; omega, ?_⟩, ?_⟩
    · by_cases h0 : n = 0
      · left; subst h0; rfl
      · right
        have hc0 := hcell 0 (by omega)
        have hsp : a.spot = none := by
          unfold World.cell? at hc0
          cases hs : a.spot with
          | none => rfl
          | some x => simp [Addr.add, hs] at hc0; split at hc0 <;> simp_all
        obtain ⟨b, o, sp⟩ := a
        simp only at hsp
        subst hsp
        refine ⟨b, o, rfl, fun i hi => ?_⟩
        rw [hlen] at hi
        have hc := hcell i (by omega)
        have e : (⟨b, o, none⟩ : Addr).add i = ⟨b, o + i, none⟩ := by unfold Addr.add; split <;> simp_all
        rw [e] at hc
        rw [hc]
        simp [rd, List.getD, List.getElem?_take, hi]
    · intro i hi
      rw [hlen] at hi
      have e : rd (zs.take n) i = zs[i]'(by omega) := by simp [rd, List.getD, List.getElem?_take, hi]; rw [List.getElem?_eq_getElem (by omega)]; rfl
      rw [e]
      exact bounds_i32 (hwf _ (List.getElem_mem _))

theorem u32s_open {r0 : Reach} {b0 : Nat} {v : Value} {d : DataW H} {p : List MemPlace} (hv : Value.okWide Try.prog w r0 b0 23 v) (h0 : DataW.Trod enc Try.prog w base (fun _ => true) true 23 v d p) : ∃ l, KsIn .u32 w v l ∧ ∀ i, i < l.length → 0 ≤ rd l i ∧ rd l i ≤ 4294967295 := by
  obtain ⟨A, n, c, rfl⟩ := okWide_slice Try.underlying23 hv
  obtain ⟨fuel, h⟩ := h0
  rcases open_ints Try.underlying23 Try.underlying75 (by kernel_rfl) h with ⟨hcs, _⟩ | ⟨a, len, cap, zs, hcs, _, hl, hm, hz, _, hcell, hwf⟩
  · simp only [Value.cells, List.cons.injEq, and_true] at hcs
    cases hcs
    exact ⟨[], ⟨none, 0, rfl, by simp, Or.inl rfl⟩, by simp⟩
  · simp only [Value.cells, List.cons.injEq, and_true] at hcs
    obtain ⟨rfl, rfl, rfl⟩ : A = some a ∧ n = len ∧ c = cap := by cases hcs; exact ⟨rfl, rfl, rfl⟩
    simp only [if_true] at hz
    have hlen : (zs.take n).length = n := by rw [List.length_take]; omega
    refine ⟨zs.take n, ⟨some a, c, by rw [hlen], by rw [hlen]; unfold maxLen at hm; omega, ?_⟩, ?_⟩
    · by_cases h0 : n = 0
      · left; subst h0; rfl
      · right
        have hc0 := hcell 0 (by omega)
        have hsp : a.spot = none := by
          unfold World.cell? at hc0
          cases hs : a.spot with
          | none => rfl
          | some x => simp [Addr.add, hs] at hc0; split at hc0 <;> simp_all
        obtain ⟨b, o, sp⟩ := a
        simp only at hsp
        subst hsp
        refine ⟨b, o, rfl, fun i hi => ?_⟩
        rw [hlen] at hi
        have hc := hcell i (by omega)
        have e : (⟨b, o, none⟩ : Addr).add i = ⟨b, o + i, none⟩ := by unfold Addr.add; split <;> simp_all
        rw [e] at hc
        rw [hc]
        simp [rd, List.getD, List.getElem?_take, hi]
    · intro i hi
      rw [hlen] at hi
      have e : rd (zs.take n) i = zs[i]'(by omega) := by simp [rd, List.getD, List.getElem?_take, hi]; rw [List.getElem?_eq_getElem (by omega)]; rfl
      rw [e]
      exact bounds_u32 (hwf _ (List.getElem_mem _))
end
end Go.Proofs.Ytlkniogapdhcpaa
