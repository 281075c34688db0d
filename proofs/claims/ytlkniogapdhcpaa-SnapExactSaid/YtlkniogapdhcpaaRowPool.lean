/- How a pool, as the laws of layer 8 take it, is handed in. -/
import Derived.Test.YtlkniogapdhcpaaRowThree
namespace Go.Proofs.Ytlkniogapdhcpaa
open Go.ChangeShapes Go.WideShapes Go.ChangeAt Go.RowKit Go.Deep
set_option linter.unusedVariables false
set_option linter.unusedSimpArgs false
set_option maxRecDepth 100000

def U32At (w : World) (A : Option Addr) (l : List Int) : Prop := l = [] ∨ ∃ b o, A = some ⟨b, o, none⟩ ∧ ∀ i, i < l.length → w.cell? ⟨b, o + i, none⟩ = some (.int .u32 (rd l i))
theorem U32At.keep {w w' : World} {A : Option Addr} {l : List Int} (h : U32At w A l) (hk : Keep0 w w') : U32At w' A l := by
  rcases h with h | ⟨b, o, e1, h⟩
  · exact Or.inl h
  · refine Or.inr ⟨b, o, e1, fun i hi => ?_⟩
    rw [cell_old hk (World.block_lt_of_cell? _ _ (h i hi)) (fun x => x)]
    exact h i hi
theorem U32At.cell {w : World} {A : Option Addr} {l : List Int} (h : U32At w A l) (hl : 0 < l.length) : ∃ b o, A = some ⟨b, o, none⟩ ∧ (∀ i, i < l.length → w.cell? ⟨b, o + i, none⟩ = some (.int .u32 (rd l i))) := by
  rcases h with rfl | h
  · simp at hl
  · exact h
/-- a pool as it is handed in -/
def PoolIn (w : World) (v : Value) : Prop := ∃ (t s g l r k : Int) (P L : List Int) (PA : Option Addr) (pc : Nat) (LA : Option Addr) (lc : Nat) (nd nn st avl : Int) (Q : List Int) (QA : Option Addr) (qc : Nat) (K : List Pk) (KA : Option Addr) (kc : Nat),
  v = .agg #[i64 t, i64 s, i64 g, i64 l, i64 r, i64 k, .slice PA P.length pc, .slice LA L.length lc, .int .u8 nd, .int .u32 nn, .int .u8 st, .int .u32 avl, .slice QA Q.length qc, .slice KA K.length kc] ∧
  IntsAt w PA P ∧ IntsAt w LA L ∧ P.length ≤ 9223372036854775807 ∧ L.length ≤ 9223372036854775807 ∧ (0 ≤ nd ∧ nd ≤ 255) ∧ (0 ≤ nn ∧ nn ≤ 4294967295) ∧ (0 ≤ st ∧ st ≤ 255) ∧ (0 ≤ avl ∧ avl ≤ 4294967295) ∧
  U32At w QA Q ∧ Q.length ≤ 9223372036854775807 ∧ (∀ i, i < Q.length → 0 ≤ rd Q i ∧ rd Q i ≤ 4294967295) ∧ pksAt w KA K ∧ K.length ≤ 9223372036854775807

section
variable {H : Type} {enc : TypeId × Value → H} {w : World} {base : Nat}
theorem u32s_cells {fuel : Nat} {cs : List Value} {x : DataW H × List MemPlace} (h : DataW.trod enc Try.prog w base (fun _ => true) true fuel 23 cs = some x) :
    ∃ A l c, cs = [.slice A (List.length l) c] ∧ l.length ≤ 9223372036854775807 ∧ U32At w A l ∧ (∀ i, i < l.length → 0 ≤ rd l i ∧ rd l i ≤ 4294967295) := by
  rcases open_ints Try.underlying23 Try.underlying75 (by kernel_rfl) h with ⟨hcs, _⟩ | ⟨a, len, cap, zs, hcs, _, hl, hm, hz, _, hcell, hwf⟩
  · exact ⟨none, [], 0, hcs, by simp, Or.inl rfl, by simp⟩
  · simp only [if_true] at hz
    have hlen : (zs.take len).length = len := by rw [List.length_take]; omega
    refine ⟨some a, zs.take len, cap, by rw [hlen]; exact hcs, by rw [hlen]; unfold maxLen at hm; omega, ?_, ?_⟩
    · by_cases h0 : len = 0
      · left; subst h0; rfl
      · right
        have hc0 := hcell 0 (by omega)
        have hsp : a.spot = none := by
          unfold World.cell? at hc0
          cases hs : a.spot with
          | none => rfl
          | some x => simp [Addr.add, hs] at hc0; split at hc0 <;> simp_all
        obtain ⟨b, o, sp⟩ := a
        simp only at hsp
        subst hsp
        refine ⟨b, o, rfl, fun i hi => ?_⟩
        rw [hlen] at hi
        have hc := hcell i (by omega)
        have e : (⟨b, o, none⟩ : Addr).add i = ⟨b, o + i, none⟩ := by unfold Addr.add; split <;> simp_all
        rw [e] at hc
        rw [hc]
        simp [rd, List.getD, List.getElem?_take, hi]
    · intro i hi
      rw [hlen] at hi
      have e : rd (zs.take len) i = zs[i]'(by omega) := by simp [rd, List.getD, List.getElem?_take, hi]; rw [List.getElem?_eq_getElem (by omega)]; rfl
      rw [e]
      exact bounds_u32 (hwf _ (List.getElem_mem _))

theorem pks_cells {fuel : Nat} {cs : List Value} {x : DataW H × List MemPlace} (hf : DataW.trod enc Try.prog w base (fun _ => true) true fuel 27 cs = some x) : ∃ A l c, cs = [.slice A (List.length l) c] ∧ l.length ≤ 9223372036854775807 ∧ pksAt w A l := by
  rcases open_slice Try.underlying27 hf with ⟨hcs, _⟩ | ⟨a, len, cap, m, n', D, Pl, hcs, hb, hl, hm, hmm, hx, hi⟩
  · exact ⟨none, [], 0, hcs, by simp, Or.inl rfl⟩
  · have hC : Try.prog.cellsOf 72 = 3 := by kernel_rfl
    simp only [if_true] at hmm
    subst hmm
    rw [hC] at hi
    obtain ⟨V, hV⟩ := choose_lt (α := Pk) (n := len) (p := fun i y => w.cells? base (a.add (i * 3)) 3 = some [i64 y.at_, i64 y.w, i64 y.x]) (fun i h => by
      obtain ⟨cs', h1, h2⟩ := hi i (by omega)
      obtain ⟨y, rfl⟩ := pks_elem h2
      exact ⟨y, h1⟩)
    have hlen : ((List.range len).map V).length = len := by simp
    refine ⟨some a, (List.range len).map V, _, by rw [hlen]; exact hcs, by rw [hlen]; unfold maxLen at hm; omega, ?_⟩
    by_cases h0 : len = 0
    · left; subst h0; rfl
    · right
      have hc0 := (World.cells?_some (hV 0 (by omega))).2.2 0 (by omega)
      have hsp : a.spot = none := by
        unfold World.cell? at hc0
        cases hs : a.spot with
        | none => rfl
        | some x => simp [Addr.add, hs] at hc0; split at hc0 <;> simp_all
      obtain ⟨b, o, sp⟩ := a
      simp only at hsp
      subst hsp
      refine ⟨b, o, rfl, fun i hi => ?_⟩
      rw [hlen] at hi
      have hg : ((List.range len).map V)[i]'(by rw [hlen]; exact hi) = V i := by simp
      rw [hg]
      have hc := (World.cells?_some (hV i hi)).2.2
      have e : ∀ j, (⟨b, o, none⟩ : Addr).add j = ⟨b, o + j, none⟩ := fun j => by unfold Addr.add; split <;> simp_all
      have e' : ∀ j, (⟨b, o + i * 3, none⟩ : Addr).add j = ⟨b, o + i * 3 + j, none⟩ := fun j => by unfold Addr.add; split <;> simp_all
      simp only [e, e'] at hc
      exact ⟨hc 0 (by omega), hc 1 (by omega), hc 2 (by omega)⟩

end
end Go.Proofs.Ytlkniogapdhcpaa
