/- Words that threads share: Words, Log, Len, Poke, Load, Cas, Add, Store. -/
import Derived.Test.YtlkniogapdhcpaaMem
namespace Go.Proofs.Ytlkniogapdhcpaa
open Go.RowKit

theorem wpl_append_own {P : Program} {ops : Array Oper} {rest : List Oper} {o : Oper} {a : Act} {w : World} {Q : Exit → Act → World → Prop}
    (hgd : o.guard = none) (s x : Operand) (t : TypeId)
    (ho : o.op = .call { callee := .builtin .append, args := #[s, x], argTypes := #[t, t] })
    (base : Nat) (e : TypeId) (i : TypeInfo) (z : Value) (size bytes : Nat) (ht : P.underlying t = some (.slice e)) (hi : P.info? e = some i) (hz : i.zero = some z)
    (hsize : i.size = size) (hby : i.bytes = bytes) (hzs : z.cells.size = size) (hsz : 0 < size)
    (v : Value) (n : Nat) (xs : List Value) (hs : a.eval s = v) (hown : w.ownsRow base e size v n xs)
    (ad : Addr) (m c : Nat) (news : List Value) (hx : a.eval x = .slice (some ad) m c) (hl : news.length = m * size) (hnews : ∀ j u, news[j]? = some u → w.cell? (ad.add j) = some u) (h1 : ∀ u ∈ news, u.oneCell' = true)
    (h63 : n + m ≤ maxLen) (hbytes : (n + m) * bytes ≤ 140737488355328) (hbase : base ≤ w.heap.size)
    (h : ∀ A c' w', w'.ownsRow base e size (.slice A (n + m) c') (n + m) (xs ++ news) → w.grownBy w' v.ownBlock → ((∀ k, (Value.slice A (n + m) c').ownBlock = some k → v.ownBlock = some k ∨ w.heap.size ≤ k) ∧ (A = none → v = .slice none 0 0 ∧ m = 0)) → wpList P ops Q rest (a.put o.dst (.slice A (n + m) c')) w') :
    wpList P ops Q (o :: rest) a w :=
  wpList_step fun _ hK => step_append_own hgd s x t ho base e i z size bytes ht hi hz hsize hby hzs hsz v n xs hs hown ad m c news hx hl hnews h1 h63 hbytes hbase fun A c' w' h1 h2 h3 => hK _ _ (h A c' w' h1 h2 h3)

/-- a row of numbers at the head of block g -/
def Ints (w : World) (g : Nat) (W : List Int) : Prop := ∃ cur, w.heap[g]? = some (.cells cur 3 (0, 0)) ∧ W.length ≤ cur.size ∧ cur.toList.take W.length = ints W
theorem Ints.cell {w : World} {g : Nat} {W : List Int} (h : Ints w g W) (i : Nat) (hi : i < W.length) : w.cell? ⟨g, i, none⟩ = some (i64 (rd W i)) := by
  obtain ⟨cur, hg, hl, ht⟩ := h
  have e : w.cell? ⟨g, i, none⟩ = cur[i]? := by simp [World.cell?, hg]
  rw [e, ← ints_get W i hi, ← ht, List.getElem?_take, if_pos hi]
  simp
theorem Ints.lt {w : World} {g : Nat} {W : List Int} (h : Ints w g W) : g < w.heap.size := by
  obtain ⟨cur, hg, _⟩ := h
  exact (Array.getElem?_eq_some_iff.1 hg).1
theorem Keep.ints {S : Nat → Prop} {w w' : World} (h : Keep S w w') {g : Nat} {W : List Int} (hi : Ints w g W) (hn : ¬ S g) : Ints w' g W := by
  have hl := hi.lt
  obtain ⟨cur, hg, r⟩ := hi
  exact ⟨cur, (h.block g hl hn).trans hg, r⟩

theorem Ints.alloc {w : World} {g : Nat} {W : List Int} (hi : Ints w g W) (o : Obj) : Ints (w.alloc o) g W := ((Keep.refl (fun _ => False) w).alloc o).ints hi (fun h => h)
theorem Ints.drew {w : World} {g : Nat} {W : List Int} (hi : Ints w g W) : Ints w.drew g W := hi
theorem Ints.drewN {w : World} {g : Nat} {W : List Int} (hi : Ints w g W) (n : Nat) : Ints (w.drewN n) g W := hi
theorem own_empty {w : World} {B g : Nat} {e : TypeId} {size : Nat} (h : Blk w g e []) (hb : B ≤ g) : w.ownsRow B e size (.slice (some ⟨g, 0, none⟩) 0 0) 0 [] :=
  ⟨by simp, .inr ⟨g, 0, #[], rfl, hb, h, Nat.le_refl _, by unfold maxLen; omega, by simp, by simp⟩⟩
theorem addr_addo (b o j : Nat) : (⟨b, o, none⟩ : Addr).add j = ⟨b, o + j, none⟩ := by unfold Addr.add; split <;> simp_all
theorem ints_one (W : List Int) : ∀ u ∈ ints W, u.oneCell' = true := by
  intro u hu
  simp only [ints, List.mem_map] at hu
  obtain ⟨x, _, rfl⟩ := hu
  rfl
theorem ints_of_row {w : World} {B : Nat} {A : Option Addr} {n c : Nat} {W : List Int} (h : w.ownsRow B 3 1 (.slice A n c) W.length (ints W)) (hA : A ≠ none) : ∃ g, A = some ⟨g, 0, none⟩ ∧ Ints w g W ∧ B ≤ g := by
  rcases h.2 with ⟨e, _⟩ | ⟨g, cap, cur, e, hb, hg, hn, _, hs, ht⟩
  · cases e; exact absurd rfl hA
  · cases e
    exact ⟨g, rfl, ⟨cur, hg, by omega, by simpa using ht⟩, hb⟩

set_option maxHeartbeats 1000000 in
theorem clone_ints (w : World) (a n c : Nat) (W : List Int) (hn : n = W.length) (hW : W.length ≤ 1000000000) (ha : ∀ i, i < W.length → w.cell? ⟨a, i, none⟩ = some (i64 (rd W i))) :
    Calls Try.prog 39 #[.slice (some ⟨a, 0, none⟩) n c] w fun e w' =>
      ∃ g c', e = .returned (.slice (some ⟨g, 0, none⟩) W.length c') ∧ Ints w' g W ∧ Keep (fun _ => False) w w' ∧ w.heap.size ≤ g := by
  subst hn
  obtain ⟨i0, hti, hz0, hz1, hz2⟩ := info_parts info_int
  have HI := hid hti
  clear hti
  have HA := hid ha
  clear ha
  go_enter Try.func39, Try.ntmps39
  go_wp2_with (at_builtin; refine wpl_append_own ?a1 (.tmp 5) (.tmp 6) 33 ?a2 (w.heap.size) 3 i0 ?z 1 8 ?a3 ?a4 ?a5 ?a6 ?a7 ?a8 ?a9 (.slice (some ⟨w.heap.size, 0, none⟩) 0 0) (0) ([]) ?a10 ?hown (⟨a, 0, none⟩) (W.length) (c) (ints W) ?a11 ?a12 ?hnews ?hone ?h63 ?hby ?hbase ?_; (case a1 => rfl); (case a2 => rfl); (case a3 => exact Try.underlying33); (case a4 => exact HI.out); (case a5 => exact hz0); (case a6 => exact hz1); (case a7 => exact hz2); (case a8 => rfl); (case a9 => decide); (case a10 => rfl); (case a11 => rfl); (case a12 => simp [ints]); (case hown => exact World.ownsRow_made w #[] 0 (Nat.le_refl _) (by unfold maxLen; omega) (by simp)); (case h63 => unfold maxLen; omega); (case hby => omega); (case hnews => intro j u hj; have hjl : j < W.length := (by have := (List.getElem?_eq_some_iff.1 hj).1; simpa [ints] using this); have e1 : (⟨a, 0, none⟩ : Addr).add j = ⟨a, j, none⟩ := addr_add a j; rw [e1, World.cell?_alloc_lt _ _ _ (World.block_lt_of_cell? _ _ (HA.out j hjl)), HA.out j hjl, ← hj, ints_get W j hjl]); (case hone => exact ints_one W); (case hbase => simp); intro A c' w3 hown3 hg3 hsl3; have HW := hid hown3; have HG := hid hg3; have HS := hid hsl3; clear hown3 hg3 hsl3)
  have hA : A ≠ none := fun e => by have := (HS.out.2 e).1; cases this
  have h0 := HW.out
  simp only [Nat.zero_add, List.nil_append] at h0
  obtain ⟨g, rfl, hg, hb⟩ := ints_of_row h0 hA
  go_ret
  exact ⟨g, _, rfl, hg, Keep.grown ((Keep.refl _ w).alloc _) HG.out (fun k hk e => by simp [Value.ownBlock] at e; omega), hb⟩
end Go.Proofs.Ytlkniogapdhcpaa
