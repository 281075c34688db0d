/- How accesses, pokes and rows of numbers are handed in. -/
import Derived.Test.YtlkniogapdhcpaaRow
import Derived.Test.YtlkniogapdhcpaaLawThree
import Derived.Test.YtlkniogapdhcpaaPlay
import Derived.Deep.Slices
import Derived.Deep.Fields
import Derived.ChangeSame
namespace Go.Proofs.Ytlkniogapdhcpaa
open Go.ChangeShapes Go.WideShapes Go.ChangeAt Go.RowKit Go.Deep
set_option linter.unusedVariables false
set_option linter.unusedSimpArgs false
set_option maxRecDepth 100000

instance : Inhabited MOp := ⟨⟨0, 0, 0, 0⟩⟩
instance : Inhabited Pk := ⟨⟨0, 0, 0⟩⟩
theorem ints_open {H : Type} {enc : TypeId × Value → H} {w : World} {base : Nat} {r0 : Reach} {b0 : Nat} {v : Value} {d : DataW H} {p : List MemPlace} (hv : Value.okWide Try.prog w r0 b0 33 v) (h : DataW.Trod enc Try.prog w base (fun _ => true) true 33 v d p) : ∃ l, IntsIn w v l := by
  obtain ⟨A, n, c, rfl⟩ := okWide_slice Try.underlying33 hv
  obtain ⟨fuel, hf⟩ := h
  obtain ⟨A', l, c', e, h1, h2⟩ := ints_cells hf
  simp only [Value.cells, List.cons.injEq, and_true] at e
  exact ⟨l, A', c', e, h1, h2⟩

def opsAt (w : World) (A : Option Addr) (l : List MOp) : Prop := l = [] ∨ ∃ b o, A = some ⟨b, o, none⟩ ∧ ∀ i (h : i < l.length), w.cell? ⟨b, o + i * 4, none⟩ = some (i64 l[i].kind) ∧ w.cell? ⟨b, o + i * 4 + 1, none⟩ = some (i64 l[i].w) ∧ w.cell? ⟨b, o + i * 4 + 2, none⟩ = some (i64 l[i].a) ∧ w.cell? ⟨b, o + i * 4 + 3, none⟩ = some (i64 l[i].b)
def opsIn (w : World) (v : Value) (l : List MOp) : Prop := ∃ A c, v = .slice A l.length c ∧ l.length ≤ 9223372036854775807 ∧ opsAt w A l
section
variable {H : Type} {enc : TypeId × Value → H} {w : World} {base : Nat}
end

def pksAt (w : World) (A : Option Addr) (l : List Pk) : Prop := l = [] ∨ ∃ b o, A = some ⟨b, o, none⟩ ∧ ∀ i (h : i < l.length), w.cell? ⟨b, o + i * 3, none⟩ = some (i64 l[i].at_) ∧ w.cell? ⟨b, o + i * 3 + 1, none⟩ = some (i64 l[i].w) ∧ w.cell? ⟨b, o + i * 3 + 2, none⟩ = some (i64 l[i].x)
def pksIn (w : World) (v : Value) (l : List Pk) : Prop := ∃ A c, v = .slice A l.length c ∧ l.length ≤ 9223372036854775807 ∧ pksAt w A l
section
variable {H : Type} {enc : TypeId × Value → H} {w : World} {base : Nat}
theorem pks_elem {fuel : Nat} {cs : List Value} {x : DataW H × List MemPlace} (h : DataW.trod enc Try.prog w base (fun _ => true) true fuel 72 cs = some x) : ∃ y : Pk, cs = [i64 y.at_, i64 y.w, i64 y.x] := by
  obtain ⟨xs, n, _, _, hlen, hxl, hf⟩ := DataW.trod_struct Try.underlying72 h
  have hlen8 : cs.length = 3 := hlen.trans (by kernel_rfl)
  obtain ⟨c0, c1, c2, rfl⟩ : ∃ c0 c1 c2, cs = [c0, c1, c2] := by
    match cs, hlen8 with
    | [c0, c1, c2], _ => exact ⟨_, _, _,  rfl⟩
  obtain ⟨y0, y1, y2, rfl⟩ : ∃ y0 y1 y2, xs = [y0, y1, y2] := by
    match xs, hxl with
    | [c0, c1, c2], _ => exact ⟨_, _, _,  rfl⟩
  have hci : Try.prog.cellsOf 3 = 1 := by kernel_rfl
  have f0 := hf 0 _ rfl
  have f1 := hf 1 _ rfl
  have f2 := hf 2 _ rfl
  simp [hci] at f0 f1 f2
  obtain ⟨z0, e0, _, _⟩ := DataW.trod_int Try.underlying3 f0
  obtain ⟨z1, e1, _, _⟩ := DataW.trod_int Try.underlying3 f1
  obtain ⟨z2, e2, _, _⟩ := DataW.trod_int Try.underlying3 f2
  simp only [List.cons.injEq, and_true] at e0 e1 e2
  subst e0 e1 e2
  exact ⟨⟨z0, z1, z2⟩, rfl⟩
theorem pks_open {r0 : Reach} {b0 : Nat} {v : Value} {d : DataW H} {p : List MemPlace} (hv : Value.okWide Try.prog w r0 b0 27 v) (h : DataW.Trod enc Try.prog w base (fun _ => true) true 27 v d p) : ∃ l, pksIn w v l := by
  obtain ⟨A, n, c, rfl⟩ := okWide_slice Try.underlying27 hv
  obtain ⟨fuel, hf⟩ := h
  rcases open_slice Try.underlying27 hf with ⟨hcs, _⟩ | ⟨a, len, cap, m, n', D, Pl, hcs, hb, hl, hm, hmm, hx, hi⟩
  · simp only [Value.cells, List.cons.injEq, and_true] at hcs
    cases hcs
    exact ⟨[], none, 0, rfl, by simp, Or.inl rfl⟩
  · simp only [Value.cells, List.cons.injEq, and_true] at hcs
    obtain ⟨rfl, rfl, rfl⟩ : A = some a ∧ n = len ∧ c = cap := by cases hcs; exact ⟨rfl, rfl, rfl⟩
    have hC : Try.prog.cellsOf 72 = 3 := by kernel_rfl
    simp only [if_true] at hmm
    subst hmm
    rw [hC] at hi
    obtain ⟨V, hV⟩ := choose_lt (α := Pk) (n := n) (p := fun i y => w.cells? base (a.add (i * 3)) 3 = some [i64 y.at_, i64 y.w, i64 y.x]) (fun i h => by
      obtain ⟨cs', h1, h2⟩ := hi i (by omega)
      obtain ⟨y, rfl⟩ := pks_elem h2
      exact ⟨y, h1⟩)
    have hlen : ((List.range n).map V).length = n := by simp
    refine ⟨(List.range n).map V, some a, _, by rw [hlen], by rw [hlen]; unfold maxLen at hm; omega, ?_⟩
    by_cases h0 : n = 0
    · left; subst h0; rfl
    · right
      have hc0 := (World.cells?_some (hV 0 (by omega))).2.2 0 (by omega)
      have hsp : a.spot = none := by
        unfold World.cell? at hc0
        cases hs : a.spot with
        | none => rfl
        | some x => simp [Addr.add, hs] at hc0; split at hc0 <;> simp_all
      obtain ⟨b, o, sp⟩ := a
      simp only at hsp
      subst hsp
      refine ⟨b, o, rfl, fun i hi => ?_⟩
      rw [hlen] at hi
      have hg : ((List.range n).map V)[i]'(by rw [hlen]; exact hi) = V i := by simp
      rw [hg]
      have hc := (World.cells?_some (hV i hi)).2.2
      have e : ∀ j, (⟨b, o, none⟩ : Addr).add j = ⟨b, o + j, none⟩ := fun j => by unfold Addr.add; split <;> simp_all
      have e' : ∀ j, (⟨b, o + i * 3, none⟩ : Addr).add j = ⟨b, o + i * 3 + j, none⟩ := fun j => by unfold Addr.add; split <;> simp_all
      simp only [e, e'] at hc
      exact ⟨hc 0 (by omega), hc 1 (by omega), hc 2 (by omega)⟩
end
end Go.Proofs.Ytlkniogapdhcpaa
