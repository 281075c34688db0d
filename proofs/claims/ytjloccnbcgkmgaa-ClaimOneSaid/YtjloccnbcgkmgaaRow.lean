/- How settings are handed in: a struct of six numbers and two slices. -/
import Derived.Test.YtjloccnbcgkmgaaConf
import Derived.ProofKit
import Derived.OpenShut
import Derived.ShutString
import Derived.ChangeOld
import Derived.SizedLaws
namespace Go.Proofs.Ytjloccnbcgkmgaa
open Go.ChangeShapes Go.WideShapes Go.ChangeAt Go.RowKit
set_option linter.unusedVariables false
set_option linter.unusedSimpArgs false
set_option maxRecDepth 100000

theorem Keep.below {w w' : World} (h : Keep0 w w') : Below w.heap.size w w' := ⟨h.os, h.tape, h.output, h.size, fun k hk => h.block k hk (fun x => x)⟩

/-- a slice of numbers and its list, as it lies in memory that is older than the call -/
def IntsIn (w : World) (v : Value) (l : List Int) : Prop := ∃ A c, v = .slice A l.length c ∧ l.length ≤ 9223372036854775807 ∧ IntsAt w A l
def ConfIn (w : World) (v : Value) : Prop := ∃ (t s g l r k : Int) (P L : List Int) (PA : Option Addr) (pc : Nat) (LA : Option Addr) (lc : Nat),
  v = .agg #[i64 t, i64 s, i64 g, i64 l, i64 r, i64 k, .slice PA P.length pc, .slice LA L.length lc] ∧ IntsAt w PA P ∧ IntsAt w LA L ∧ P.length ≤ 9223372036854775807 ∧ L.length ≤ 9223372036854775807

section
variable {H : Type} {enc : TypeId × Value → H} {w : World} {base : Nat}
theorem ints_cells {fuel : Nat} {cs : List Value} {x : DataW H × List MemPlace} (h : DataW.trod enc Try.prog w base (fun _ => true) true fuel 22 cs = some x) :
    ∃ A l c, cs = [.slice A (List.length l) c] ∧ l.length ≤ 9223372036854775807 ∧ IntsAt w A l := by
  rcases open_ints Try.underlying22 Try.underlying3 (by kernel_rfl) h with ⟨hcs, _⟩ | ⟨a, len, cap, zs, hcs, _, hl, hm, hz, _, hcell, _⟩
  · exact ⟨none, [], 0, hcs, by simp, Or.inl rfl⟩
  · simp only [if_true] at hz
    have hlen : (zs.take len).length = len := by rw [List.length_take]; omega
    refine ⟨some a, zs.take len, cap, by rw [hlen]; exact hcs, by rw [hlen]; unfold maxLen at hm; omega, ?_⟩
    by_cases h0 : len = 0
    · left; subst h0; rfl
    · right
      have hc0 := hcell 0 (by omega)
      have hsp : a.spot = none := by
        unfold World.cell? at hc0
        cases hs : a.spot with
        | none => rfl
        | some x => simp [Addr.add, hs] at hc0; split at hc0 <;> simp_all
      obtain ⟨b, o, sp⟩ := a
      simp only at hsp
      subst hsp
      refine ⟨b, o, rfl, fun i hi => ?_⟩
      rw [hlen] at hi
      have hc := hcell i (by omega)
      have e : (⟨b, o, none⟩ : Addr).add i = ⟨b, o + i, none⟩ := by unfold Addr.add; split <;> simp_all
      rw [e] at hc
      rw [hc]
      simp [rd, List.getD, List.getElem?_take, hi]

theorem conf_cells {fuel : Nat} {cs : List Value} {x : DataW H × List MemPlace} (h : DataW.trod enc Try.prog w base (fun _ => true) true fuel 24 cs = some x) :
    ∃ (t s g l r k : Int) (P L : List Int) (PA : Option Addr) (pc : Nat) (LA : Option Addr) (lc : Nat), cs = [i64 t, i64 s, i64 g, i64 l, i64 r, i64 k, .slice PA P.length pc, .slice LA L.length lc] ∧
      IntsAt w PA P ∧ IntsAt w LA L ∧ P.length ≤ 9223372036854775807 ∧ L.length ≤ 9223372036854775807 := by
  obtain ⟨xs, n, _, _, hlen, hxl, hf⟩ := DataW.trod_struct Try.underlying24 h
  have hlen8 : cs.length = 8 := hlen.trans (by kernel_rfl)
  obtain ⟨c0, c1, c2, c3, c4, c5, c6, c7, rfl⟩ : ∃ c0 c1 c2 c3 c4 c5 c6 c7, cs = [c0, c1, c2, c3, c4, c5, c6, c7] := by
    match cs, hlen8 with
    | [c0, c1, c2, c3, c4, c5, c6, c7], _ => exact ⟨_, _, _, _, _, _, _, _, rfl⟩
  obtain ⟨y0, y1, y2, y3, y4, y5, y6, y7, rfl⟩ : ∃ y0 y1 y2 y3 y4 y5 y6 y7, xs = [y0, y1, y2, y3, y4, y5, y6, y7] := by
    match xs, hxl with
    | [c0, c1, c2, c3, c4, c5, c6, c7], _ => exact ⟨_, _, _, _, _, _, _, _, rfl⟩
  have hci : Try.prog.cellsOf 3 = 1 := by kernel_rfl
  have hcs : Try.prog.cellsOf 22 = 1 := by kernel_rfl
  have f0 := hf 0 _ rfl
  have f1 := hf 1 _ rfl
  have f2 := hf 2 _ rfl
  have f3 := hf 3 _ rfl
  have f4 := hf 4 _ rfl
  have f5 := hf 5 _ rfl
  have f6 := hf 6 _ rfl
  have f7 := hf 7 _ rfl
  simp [hci, hcs] at f0 f1 f2 f3 f4 f5 f6 f7
  obtain ⟨t, e0, _, _⟩ := DataW.trod_int Try.underlying3 f0
  obtain ⟨s, e1, _, _⟩ := DataW.trod_int Try.underlying3 f1
  obtain ⟨g, e2, _, _⟩ := DataW.trod_int Try.underlying3 f2
  obtain ⟨l, e3, _, _⟩ := DataW.trod_int Try.underlying3 f3
  obtain ⟨r, e4, _, _⟩ := DataW.trod_int Try.underlying3 f4
  obtain ⟨k, e5, _, _⟩ := DataW.trod_int Try.underlying3 f5
  obtain ⟨PA, P, pc, e6, hpb, hp⟩ := ints_cells f6
  obtain ⟨LA, L, lc, e7, hlb, hl⟩ := ints_cells f7
  simp only [List.cons.injEq, and_true] at e0 e1 e2 e3 e4 e5 e6 e7
  subst e0 e1 e2 e3 e4 e5 e6 e7
  exact ⟨t, s, g, l, r, k, P, L, PA, pc, LA, lc, rfl, hp, hl, hpb, hlb⟩

theorem conf_open {r0 : Reach} {b0 : Nat} {v : Value} {d : DataW H} {p : List MemPlace} (hv : Value.okWide Try.prog w r0 b0 24 v) (h : DataW.Trod enc Try.prog w base (fun _ => true) true 24 v d p) : ConfIn w v := by
  obtain ⟨cs, rfl, hsz⟩ := okWide_struct Try.underlying24 hv
  obtain ⟨fuel, hf⟩ := h
  obtain ⟨t, s, g, l, r, k, P, L, PA, pc, LA, lc, e, h1, h2, h3, h4⟩ := conf_cells hf
  refine ⟨t, s, g, l, r, k, P, L, PA, pc, LA, lc, ?_, h1, h2, h3, h4⟩
  simp only [Value.cells] at e
  rw [← e]
end
end Go.Proofs.Ytjloccnbcgkmgaa
