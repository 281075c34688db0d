/- Contracts and plain laws for UsageWay, part 0: what the walk of the law leans on. -/
import Derived.WalkKit
import Derived.WalkSpells
import Derived.WalkLawsBesides
import Derived.Deep.QuietTactic
import Derived.BigQuiet
import Derived.Test.YthaceckccobgeaaGreatRows
namespace Go.Proofs.YthaceckccobgeaaGreat
open Go.RowKit
theorem hid {p : Prop} (h : p) : Hid p := h
/-! small rules for the walk's own simp: a block that is older than the heap's end is none of the new ones. 'lts': laid as facts, since simp's own search goes two steps deep -/
theorem ne_size {w : World} {m : Nat} (h : m < w.heap.size) : (m = w.heap.size) = False := eq_false (by omega)
theorem size_ne {w : World} {m : Nat} (h : m < w.heap.size) : (w.heap.size = m) = False := eq_false (by omega)
theorem ne_more {m k : Nat} (h : m < k) : (m = k + 1) = False := eq_false (by omega)
theorem more_ne {m k : Nat} (h : m < k) : (k + 1 = m) = False := eq_false (by omega)
attribute [go_sem] Lib.run_eql_slice_nil
attribute [go_sem] ne_size size_ne ne_more more_ne
theorem lts {n m : Nat} (h : m < n) : m < n + 1 ∧ m < n + 1 + 1 ∧ m < n + 1 + 1 + 1 ∧ m < n + 1 + 1 + 1 + 1 ∧ m < n + 1 + 1 + 1 + 1 + 1 ∧ m < n + 1 + 1 + 1 + 1 + 1 + 1 := by omega
theorem addr_add (b j : Nat) : (⟨b, 0, none⟩ : Addr).add j = ⟨b, j, none⟩ := by unfold Addr.add; split <;> simp_all
def Blk (w : World) (b : Nat) (t : TypeId) (cs : List Value) : Prop := w.heap[b]? = some (.cells cs.toArray t (0, 0))
theorem Blk.cell {w : World} {b : Nat} {t : TypeId} {cs : List Value} (h : Blk w b t cs) (o : Nat) : w.cell? ⟨b, o, none⟩ = cs[o]? := by
 unfold Blk at h
 simp [World.cell?, h]
theorem Blk.frozen {w : World} {b : Nat} {t : TypeId} {cs : List Value} (h : Blk w b t cs) (o : Nat) : w.frozen? ⟨b, o, none⟩ = false := by
 unfold Blk at h
 simp [World.frozen?, h]
theorem Blk.cast {w : World} {b : Nat} {t : TypeId} {cs cs' : List Value} (h : Blk w b t cs) (e : cs = cs') : Blk w b t cs' := e ▸ h
theorem Blk.lt {w : World} {b : Nat} {t : TypeId} {cs : List Value} (h : Blk w b t cs) : b < w.heap.size := (Array.getElem?_eq_some_iff.1 h).1
theorem Blk.ne {w : World} {b b' : Nat} {t t' : TypeId} {cs cs' : List Value} (h : Blk w b t cs) (h' : Blk w b' t' cs') (ht : t ≠ t') : b ≠ b' := by
 intro e
 subst e
 unfold Blk at h h'
 rw [h] at h'
 simp at h'
 exact ht h'.2
theorem Blk.new (w : World) (t : TypeId) (cs : List Value) : Blk (w.alloc (.cells cs.toArray t)) w.heap.size t cs := by
 unfold Blk World.alloc
 simp
theorem Blk.made {w : World} {b : Nat} {t : TypeId} {c : Array Value} {cs : List Value} (hb : b = w.heap.size) (hc : c = cs.toArray) : Blk (w.alloc (.cells c t)) b t cs := by
 subst hb
 subst hc
 exact Blk.new w t cs
theorem Blk.alloc {w : World} {b : Nat} {t : TypeId} {cs : List Value} (h : Blk w b t cs) (o : Obj) : Blk (w.alloc o) b t cs := by
 have hl := h.lt
 unfold Blk at *
 rw [Below.heap_alloc _ _ _ hl]
 exact h
theorem Blk.drew {w : World} {b : Nat} {t : TypeId} {cs : List Value} (h : Blk w b t cs) : Blk w.drew b t cs := h
theorem Blk.set {w : World} {b : Nat} {t : TypeId} {cs : List Value} (h : Blk w b t cs) (o : Nat) (v : Value) : Blk (w.setCell ⟨b, o, none⟩ v) b t (cs.set o v) := by
 unfold Blk at *
 simp only [World.setCell, Array.getElem?_modify, if_true, h]
 simp
theorem Blk.other {w : World} {b : Nat} {t : TypeId} {cs : List Value} (h : Blk w b t cs) {a : Addr} (v : Value) (hne : a.block ≠ b) : Blk (w.setCell a v) b t cs := by
 unfold Blk at *
 rw [Below.heap_setCell _ _ _ _ (Ne.symm hne)]
 exact h
theorem lts4 {n m : Nat} (h : m < n) : m < n + 1 ∧ m < n + 1 + 1 ∧ m < n + 1 + 1 + 1 ∧ m < n + 1 + 1 + 1 + 1 := by omega
/-! all that a block says, for the walk -/
theorem Blk.k1 {w : World} {b : Nat} {t : TypeId} {v0 : Value} (h : Blk w b t [v0]) : w.cell? ⟨b, 0, none⟩ = some v0 ∧ (∀ o, w.frozen? ⟨b, o, none⟩ = false) ∧ b < w.heap.size ∧ b < w.heap.size + 1 ∧ b < w.heap.size + 1 + 1 ∧ b < w.heap.size + 1 + 1 + 1 ∧ b < w.heap.size + 1 + 1 + 1 + 1 :=
 ⟨h.cell 0, h.frozen, h.lt, lts4 h.lt⟩
theorem Blk.k2 {w : World} {b : Nat} {t : TypeId} {v0 v1 : Value} (h : Blk w b t [v0, v1]) : w.cell? ⟨b, 0, none⟩ = some v0 ∧ w.cell? ⟨b, 1, none⟩ = some v1 ∧ (∀ o, w.frozen? ⟨b, o, none⟩ = false) ∧ b < w.heap.size ∧ b < w.heap.size + 1 ∧ b < w.heap.size + 1 + 1 ∧ b < w.heap.size + 1 + 1 + 1 ∧ b < w.heap.size + 1 + 1 + 1 + 1 :=
 ⟨h.cell 0, h.cell 1, h.frozen, h.lt, lts4 h.lt⟩
theorem Blk.k5 {w : World} {b : Nat} {t : TypeId} {v0 v1 v2 v3 v4 : Value} (h : Blk w b t [v0, v1, v2, v3, v4]) : w.cell? ⟨b, 0, none⟩ = some v0 ∧ w.cell? ⟨b, 1, none⟩ = some v1 ∧ w.cell? ⟨b, 2, none⟩ = some v2 ∧ w.cell? ⟨b, 3, none⟩ = some v3 ∧ w.cell? ⟨b, 4, none⟩ = some v4 ∧ (∀ o, w.frozen? ⟨b, o, none⟩ = false) ∧ b < w.heap.size ∧ b < w.heap.size + 1 ∧ b < w.heap.size + 1 + 1 ∧ b < w.heap.size + 1 + 1 + 1 ∧ b < w.heap.size + 1 + 1 + 1 + 1 :=
 ⟨h.cell 0, h.cell 1, h.cell 2, h.cell 3, h.cell 4, h.frozen, h.lt, lts4 h.lt⟩
theorem Blk.k8 {w : World} {b : Nat} {t : TypeId} {v0 v1 v2 v3 v4 v5 v6 v7 : Value} (h : Blk w b t [v0, v1, v2, v3, v4, v5, v6, v7]) : w.cell? ⟨b, 0, none⟩ = some v0 ∧ w.cell? ⟨b, 1, none⟩ = some v1 ∧ w.cell? ⟨b, 2, none⟩ = some v2 ∧ w.cell? ⟨b, 3, none⟩ = some v3 ∧ w.cell? ⟨b, 4, none⟩ = some v4 ∧ w.cell? ⟨b, 5, none⟩ = some v5 ∧ w.cell? ⟨b, 6, none⟩ = some v6 ∧ w.cell? ⟨b, 7, none⟩ = some v7 ∧ (∀ o, w.frozen? ⟨b, o, none⟩ = false) ∧ b < w.heap.size ∧ b < w.heap.size + 1 ∧ b < w.heap.size + 1 + 1 ∧ b < w.heap.size + 1 + 1 + 1 ∧ b < w.heap.size + 1 + 1 + 1 + 1 :=
 ⟨h.cell 0, h.cell 1, h.cell 2, h.cell 3, h.cell 4, h.cell 5, h.cell 6, h.cell 7, h.frozen, h.lt, lts4 h.lt⟩
theorem Blk.k10 {w : World} {b : Nat} {t : TypeId} {v0 v1 v2 v3 v4 v5 v6 v7 v8 v9 : Value} (h : Blk w b t [v0, v1, v2, v3, v4, v5, v6, v7, v8, v9]) : w.cell? ⟨b, 0, none⟩ = some v0 ∧ w.cell? ⟨b, 1, none⟩ = some v1 ∧ w.cell? ⟨b, 2, none⟩ = some v2 ∧ w.cell? ⟨b, 3, none⟩ = some v3 ∧ w.cell? ⟨b, 4, none⟩ = some v4 ∧ w.cell? ⟨b, 5, none⟩ = some v5 ∧ w.cell? ⟨b, 6, none⟩ = some v6 ∧ w.cell? ⟨b, 7, none⟩ = some v7 ∧ w.cell? ⟨b, 8, none⟩ = some v8 ∧ w.cell? ⟨b, 9, none⟩ = some v9 ∧ (∀ o, w.frozen? ⟨b, o, none⟩ = false) ∧ b < w.heap.size ∧ b < w.heap.size + 1 ∧ b < w.heap.size + 1 + 1 ∧ b < w.heap.size + 1 + 1 + 1 ∧ b < w.heap.size + 1 + 1 + 1 + 1 :=
 ⟨h.cell 0, h.cell 1, h.cell 2, h.cell 3, h.cell 4, h.cell 5, h.cell 6, h.cell 7, h.cell 8, h.cell 9, h.frozen, h.lt, lts4 h.lt⟩
theorem Blk.k14 {w : World} {b : Nat} {t : TypeId} {v0 v1 v2 v3 v4 v5 v6 v7 v8 v9 v10 v11 v12 v13 : Value} (h : Blk w b t [v0, v1, v2, v3, v4, v5, v6, v7, v8, v9, v10, v11, v12, v13]) : w.cell? ⟨b, 0, none⟩ = some v0 ∧ w.cell? ⟨b, 1, none⟩ = some v1 ∧ w.cell? ⟨b, 2, none⟩ = some v2 ∧ w.cell? ⟨b, 3, none⟩ = some v3 ∧ w.cell? ⟨b, 4, none⟩ = some v4 ∧ w.cell? ⟨b, 5, none⟩ = some v5 ∧ w.cell? ⟨b, 6, none⟩ = some v6 ∧ w.cell? ⟨b, 7, none⟩ = some v7 ∧ w.cell? ⟨b, 8, none⟩ = some v8 ∧ w.cell? ⟨b, 9, none⟩ = some v9 ∧ w.cell? ⟨b, 10, none⟩ = some v10 ∧ w.cell? ⟨b, 11, none⟩ = some v11 ∧ w.cell? ⟨b, 12, none⟩ = some v12 ∧ w.cell? ⟨b, 13, none⟩ = some v13 ∧ (∀ o, w.frozen? ⟨b, o, none⟩ = false) ∧ b < w.heap.size ∧ b < w.heap.size + 1 ∧ b < w.heap.size + 1 + 1 ∧ b < w.heap.size + 1 + 1 + 1 ∧ b < w.heap.size + 1 + 1 + 1 + 1 :=
 ⟨h.cell 0, h.cell 1, h.cell 2, h.cell 3, h.cell 4, h.cell 5, h.cell 6, h.cell 7, h.cell 8, h.cell 9, h.cell 10, h.cell 11, h.cell 12, h.cell 13, h.frozen, h.lt, lts4 h.lt⟩
theorem Blk.k18 {w : World} {b : Nat} {t : TypeId} {v0 v1 v2 v3 v4 v5 v6 v7 v8 v9 v10 v11 v12 v13 v14 v15 v16 v17 : Value} (h : Blk w b t [v0, v1, v2, v3, v4, v5, v6, v7, v8, v9, v10, v11, v12, v13, v14, v15, v16, v17]) : w.cell? ⟨b, 0, none⟩ = some v0 ∧ w.cell? ⟨b, 1, none⟩ = some v1 ∧ w.cell? ⟨b, 2, none⟩ = some v2 ∧ w.cell? ⟨b, 3, none⟩ = some v3 ∧ w.cell? ⟨b, 4, none⟩ = some v4 ∧ w.cell? ⟨b, 5, none⟩ = some v5 ∧ w.cell? ⟨b, 6, none⟩ = some v6 ∧ w.cell? ⟨b, 7, none⟩ = some v7 ∧ w.cell? ⟨b, 8, none⟩ = some v8 ∧ w.cell? ⟨b, 9, none⟩ = some v9 ∧ w.cell? ⟨b, 10, none⟩ = some v10 ∧ w.cell? ⟨b, 11, none⟩ = some v11 ∧ w.cell? ⟨b, 12, none⟩ = some v12 ∧ w.cell? ⟨b, 13, none⟩ = some v13 ∧ w.cell? ⟨b, 14, none⟩ = some v14 ∧ w.cell? ⟨b, 15, none⟩ = some v15 ∧ w.cell? ⟨b, 16, none⟩ = some v16 ∧ w.cell? ⟨b, 17, none⟩ = some v17 ∧ (∀ o, w.frozen? ⟨b, o, none⟩ = false) ∧ b < w.heap.size ∧ b < w.heap.size + 1 ∧ b < w.heap.size + 1 + 1 ∧ b < w.heap.size + 1 + 1 + 1 ∧ b < w.heap.size + 1 + 1 + 1 + 1 :=
 ⟨h.cell 0, h.cell 1, h.cell 2, h.cell 3, h.cell 4, h.cell 5, h.cell 6, h.cell 7, h.cell 8, h.cell 9, h.cell 10, h.cell 11, h.cell 12, h.cell 13, h.cell 14, h.cell 15, h.cell 16, h.cell 17, h.frozen, h.lt, lts4 h.lt⟩
theorem Blk.k19 {w : World} {b : Nat} {t : TypeId} {v0 v1 v2 v3 v4 v5 v6 v7 v8 v9 v10 v11 v12 v13 v14 v15 v16 v17 v18 : Value} (h : Blk w b t [v0, v1, v2, v3, v4, v5, v6, v7, v8, v9, v10, v11, v12, v13, v14, v15, v16, v17, v18]) : w.cell? ⟨b, 0, none⟩ = some v0 ∧ w.cell? ⟨b, 1, none⟩ = some v1 ∧ w.cell? ⟨b, 2, none⟩ = some v2 ∧ w.cell? ⟨b, 3, none⟩ = some v3 ∧ w.cell? ⟨b, 4, none⟩ = some v4 ∧ w.cell? ⟨b, 5, none⟩ = some v5 ∧ w.cell? ⟨b, 6, none⟩ = some v6 ∧ w.cell? ⟨b, 7, none⟩ = some v7 ∧ w.cell? ⟨b, 8, none⟩ = some v8 ∧ w.cell? ⟨b, 9, none⟩ = some v9 ∧ w.cell? ⟨b, 10, none⟩ = some v10 ∧ w.cell? ⟨b, 11, none⟩ = some v11 ∧ w.cell? ⟨b, 12, none⟩ = some v12 ∧ w.cell? ⟨b, 13, none⟩ = some v13 ∧ w.cell? ⟨b, 14, none⟩ = some v14 ∧ w.cell? ⟨b, 15, none⟩ = some v15 ∧ w.cell? ⟨b, 16, none⟩ = some v16 ∧ w.cell? ⟨b, 17, none⟩ = some v17 ∧ w.cell? ⟨b, 18, none⟩ = some v18 ∧ (∀ o, w.frozen? ⟨b, o, none⟩ = false) ∧ b < w.heap.size ∧ b < w.heap.size + 1 ∧ b < w.heap.size + 1 + 1 ∧ b < w.heap.size + 1 + 1 + 1 ∧ b < w.heap.size + 1 + 1 + 1 + 1 :=
 ⟨h.cell 0, h.cell 1, h.cell 2, h.cell 3, h.cell 4, h.cell 5, h.cell 6, h.cell 7, h.cell 8, h.cell 9, h.cell 10, h.cell 11, h.cell 12, h.cell 13, h.cell 14, h.cell 15, h.cell 16, h.cell 17, h.cell 18, h.frozen, h.lt, lts4 h.lt⟩
structure Keep (S : Nat → Prop) (w w' : World) : Prop where
 os : w'.os = w.os
 tape : w'.tape = w.tape
 output : w'.output = w.output
 size : w.heap.size ≤ w'.heap.size
 block : ∀ k, k < w.heap.size → ¬ S k → w'.heap[k]? = w.heap[k]?
variable {S T : Nat → Prop} {w w' w'' : World}
theorem Keep.refl (S : Nat → Prop) (w : World) : Keep S w w := ⟨rfl, rfl, rfl, Nat.le_refl _, fun _ _ _ => rfl⟩
theorem Keep.trans (h : Keep S w w') (h' : Keep T w' w'') (hT : ∀ k, k < w.heap.size → T k → S k) : Keep S w w'' :=
 ⟨h'.os.trans h.os, h'.tape.trans h.tape, h'.output.trans h.output, Nat.le_trans h.size h'.size, fun k hk hS =>
  (h'.block k (Nat.lt_of_lt_of_le hk h.size) (fun hTk => hS (hT k hk hTk))).trans (h.block k hk hS)⟩
theorem Keep.mono (h : Keep S w w') (hT : ∀ k, S k → T k) : Keep T w w' := ⟨h.os, h.tape, h.output, h.size, fun k hk hn => h.block k hk (fun hs => hn (hT k hs))⟩
theorem Keep.blk (h : Keep S w w') {b : Nat} {t : TypeId} {cs : List Value} (hb : Blk w b t cs) (hn : ¬ S b) : Blk w' b t cs := by
 have hl := hb.lt
 unfold Blk at *
 rw [h.block b hl hn]
 exact hb
theorem Keep.alloc (h : Keep S w w') (o : Obj) : Keep S w (w'.alloc o) :=
 ⟨h.os, h.tape, h.output, by have := h.size; simp; omega, fun k hk hn => (Below.heap_alloc _ _ _ (Nat.lt_of_lt_of_le hk h.size)).trans (h.block k hk hn)⟩
theorem Keep.drew (h : Keep S w w') : Keep S w w'.drew := ⟨h.os, h.tape, h.output, h.size, h.block⟩
theorem Keep.drewN (h : Keep S w w') (n : Nat) : Keep S w (w'.drewN n) := ⟨h.os, h.tape, h.output, h.size, h.block⟩
theorem Blk.drewN {w : World} {b : Nat} {t : TypeId} {cs : List Value} (h : Blk w b t cs) (n : Nat) : Blk (w.drewN n) b t cs := h
theorem Keep.set (h : Keep S w w') (a : Addr) (v : Value) (ha : a.block < w.heap.size → S a.block) : Keep S w (w'.setCell a v) :=
 ⟨h.os, h.tape, h.output, by have := h.size; simpa [World.setCell] using this, fun k hk hn => by
  rw [Below.heap_setCell _ _ _ _ (fun e => by subst e; exact hn (ha hk))]
  exact h.block k hk hn⟩
abbrev Keep0 (w w' : World) : Prop := Keep (fun _ => False) w w'
theorem Keep0.step {w w1 w2 : World} (h : Keep0 w w1) (h' : Keep0 w1 w2) : Keep0 w w2 := h.trans h' (fun _ _ h => h)
theorem Keep0.to {S : Nat → Prop} {w w' : World} (h : Keep0 w w') : Keep S w w' := h.mono (fun _ h => h.elim)
def Ret (v : Value) (w : World) (e : Ending) (w' : World) : Prop := e = .returned v ∧ Keep0 w w'
theorem mul_bd {a b : Int} (A B : Int) (ha : 0 ≤ a) (hA : a ≤ A) (hb : 0 ≤ b) (hB : b ≤ B) : 0 ≤ a * b ∧ a * b ≤ A * B :=
 ⟨Int.mul_nonneg ha hb, Int.mul_le_mul hA hB hb (Int.le_trans ha hA)⟩
end Go.Proofs.YthaceckccobgeaaGreat
