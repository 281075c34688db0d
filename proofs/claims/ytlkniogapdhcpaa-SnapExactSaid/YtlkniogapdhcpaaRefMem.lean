/- The reference memory: package breadlineref03. -/
import Derived.Test.YtlkniogapdhcpaaSame
import Derived.Test.YtlkniogapdhcpaaMemC
namespace Go.Proofs.Ytlkniogapdhcpaa
open Go.RowKit
set_option linter.unusedVariables false
set_option linter.unusedSimpArgs false

/-- a reference Mem in block m: its words the row A, its log the row lv -/
structure RefAt (B : Nat) (w : World) (m : Nat) (A : Option Addr) (c : Nat) (lv : Value) (W : List Int) (L : List Acc) : Prop where
  base : B ≤ w.heap.size
  bm : B ≤ m
  mem : Blk w m 53 [.slice A W.length c, lv]
  words : w.ownsRow B 3 1 (.slice A W.length c) W.length (ints W)
  log : w.ownsRow B 42 5 lv L.length (accs L)

/-- its blocks -/
def RF (m : Nat) (A : Option Addr) (lv : Value) (k : Nat) : Prop := k = m ∨ (Value.slice A 0 0).ownBlock = some k ∨ lv.ownBlock = some k
theorem own_any (A : Option Addr) (n c n' c' : Nat) : (Value.slice A n c).ownBlock = (Value.slice A n' c').ownBlock := by cases A <;> rfl

theorem RefAt.keep {B : Nat} {S : Nat → Prop} {w w' : World} {m : Nat} {A : Option Addr} {c : Nat} {lv : Value} {W : List Int} {L : List Acc} (h : RefAt B w m A c lv W L) (hk : Keep S w w') (hS : ∀ k, RF m A lv k → ¬ S k) : RefAt B w' m A c lv W L :=
  ⟨Nat.le_trans h.base hk.size, h.bm, hk.blk h.mem (hS _ (Or.inl rfl)), ownsRow_keep h.words hk (fun k hkk => hS _ (Or.inr (Or.inl ((own_any _ _ _ _ _).trans hkk)))), ownsRow_keep h.log hk (fun k hkk => hS _ (Or.inr (Or.inr hkk)))⟩

theorem own_full {w : World} {B g : Nat} {W : List Int} (h : Blk w g 3 (ints W)) (hb : B ≤ g) (hl : W.length ≤ 1000000000) : w.ownsRow B 3 1 (.slice (some ⟨g, 0, none⟩) W.length W.length) W.length (ints W) :=
  ⟨by simp [ints], .inr ⟨g, W.length, (ints W).toArray, rfl, hb, h, Nat.le_refl _, by unfold maxLen; omega, by simp [ints], by simp [ints, List.take_of_length_le]⟩⟩
theorem own_base {w : World} {B B' : Nat} {e : TypeId} {size : Nat} {v : Value} {n : Nat} {xs : List Value} (h : w.ownsRow B e size v n xs) (hb : B' ≤ B) : w.ownsRow B' e size v n xs := by
  obtain ⟨h1, h2⟩ := h
  refine ⟨h1, ?_⟩
  rcases h2 with hn | ⟨g, cap, cur, e1, hg, rest⟩
  · exact .inl hn
  · exact .inr ⟨g, cap, cur, e1, Nat.le_trans hb hg, rest⟩
theorem ints_own {w : World} {B : Nat} {A : Option Addr} {n c : Nat} {l : List Int} (h : w.ownsRow B 3 1 (.slice A n c) n (ints l)) (hn : 0 < n) (hl : l.length = n) : ∃ g, A = some ⟨g, 0, none⟩ ∧ Ints w g l ∧ B ≤ g := by
  have hA : A ≠ none := fun e => by
    rcases h.2 with ⟨e', h0⟩ | ⟨g, cap, cur, e', _, _, _⟩
    · omega
    · cases e'; cases e
  subst hl
  exact ints_of_row h hA
theorem ints_take (V : List Int) (j : Nat) (h : j < V.length) : ints (V.take j) ++ [i64 (rd V j)] = ints (V.take (j + 1)) := by
  have e : V[j]? = some (rd V j) := by simp [rd, h]
  rw [List.take_add_one, e]
  simp [ints]

set_option maxHeartbeats 2000000 in
theorem ref_Poke (B : Nat) (w : World) (m : Nat) (A : Option Addr) (c : Nat) (lv : Value) (W : List Int) (L : List Acc) (i x : Int) (hm : RefAt B w m A c lv W L) (h0 : 0 ≤ i) (hi : i < W.length) (hW : W.length ≤ 1000000) :
    Calls Try.prog 37 #[ptr m, i64 i, i64 x] w fun e w' => e = .returned (.tuple #[]) ∧ ∃ A' c', RefAt B w' m A' c' lv (W.set i.toNat x) L ∧ Keep (fun k => k = m) w w' ∧ (∀ k, (Value.slice A' 0 0).ownBlock = some k → w.heap.size ≤ k) := by
  obtain ⟨i, rfl⟩ := Int.eq_ofNat_of_zero_le h0
  rw [Int.toNat_natCast]
  have hi' : i < W.length := by omega
  obtain ⟨i0, hti, hz0, hz1, hz2⟩ := info_parts info_int
  have HI := hid hti
  clear hti
  obtain ⟨g, rfl, hg, hBg⟩ := ints_own hm.words (by omega) rfl
  have HG := hid hg
  have HB := hid hm.mem
  have HM := hid hm
  clear hm hg hBg
  go_enter Try.func37, Try.ntmps37
  go_wp2_with fail
  go_loopw [6, 7] (fun v6 v7 wr => ∃ j : Nat, j ≤ W.length ∧ v7 = .int .i64 j ∧ ∃ A1 c1, v6 = .slice A1 j c1 ∧ wr.ownsRow w.heap.size 3 1 (.slice A1 j c1) j (ints ((W.set i x).take j)) ∧ Keep0 w wr) (fun _ v _ => W.length - (intOf v).toNat)
  case atStart => exact ⟨0, Nat.zero_le _, rfl, none, 0, rfl, by simpa [ints] using World.ownsRow_nil _ _ _ _, Keep.refl _ _⟩
  case round =>
    obtain ⟨j, hj, rfl, A1, c1, rfl, ho, hk⟩ := hrel
    have HO := hid ho
    have HK := hid hk
    have qm := (hk.blk HB.out (fun h => h)).k2
    have HGR := hid (hk.ints HG.out (fun h => h))
    clear ho hk
    by_cases hlt : j < W.length
    · have q1 := HGR.out.cell j hlt
      have q2 := HGR.out.lt
      by_cases hji : j = i
      · subst hji
        have hxt : ints ((W.set j x).take j) ++ [i64 x] = ints ((W.set j x).take (j + 1)) := by
          rw [← ints_take _ _ (by simpa using hlt)]; simp [rd, hlt]
        have HXT := hid hxt
        clear hxt
        go_wp2_with (first | (at_builtin; refine wpl_append_own ?a1 (.tmp 20) (.tmp 22) 33 ?a2 (w.heap.size) 3 i0 ?z 1 8 ?a3 ?a4 ?a5 ?a6 ?a7 ?a8 ?a9 (.slice A1 j c1) (j) (ints ((W.set j x).take j)) ?a10 ?hown (⟨wr.heap.size, 0, none⟩) (1) (1) ([i64 (x)]) ?a11 ?a12 ?hnews ?hone ?h63 ?hby ?hbase ?_; (case a1 => rfl); (case a2 => rfl); (case a3 => exact Try.underlying33); (case a4 => exact HI.out); (case a5 => exact hz0); (case a6 => exact hz1); (case a7 => exact hz2); (case a8 => rfl); (case a9 => decide); (case a10 => rfl); (case a11 => rfl); (case a12 => rfl); (case hown => exact HO.out.alloc _); (case h63 => unfold maxLen; omega); (case hby => omega); (case hnews => exact news_at (Blk.made rfl (by simp))); (case hone => simp [Value.oneCell']); (case hbase => have := HK.out.size; simp; omega); intro A4 c4 w4 hown4 hg4 hsl4; have h04 := hown4; rw [HXT.out] at h04; have HO4 := hid h04; have HK4 := hid (Keep.grown (HK.out.alloc _) hg4 (fun k hk e => by have := (HO.out.lt k e).1; omega)); clear hown4 hg4 hsl4 h04))
        go_roundw
        case rel => exact ⟨j + 1, by omega, by go_num, A4, c4, rfl, HO4.out, HK4.out⟩
        case measure => simp [intOf]; omega
      · have hxt : ints ((W.set i x).take j) ++ [i64 (rd W j)] = ints ((W.set i x).take (j + 1)) := by
          rw [← ints_take _ _ (by simpa using hlt)]; simp [rd, hlt, List.getElem?_set, Ne.symm hji]
        have HXT := hid hxt
        clear hxt
        have hjb : ((j : Int) == (i : Int)) = false := by simp; omega
        go_wp2_with (first | (at_builtin; refine wpl_append_own ?a1 (.tmp 24) (.tmp 32) 33 ?a2 (w.heap.size) 3 i0 ?z 1 8 ?a3 ?a4 ?a5 ?a6 ?a7 ?a8 ?a9 (.slice A1 j c1) (j) (ints ((W.set i x).take j)) ?a10 ?hown (⟨wr.heap.size, 0, none⟩) (1) (1) ([i64 (rd W j)]) ?a11 ?a12 ?hnews ?hone ?h63 ?hby ?hbase ?_; (case a1 => rfl); (case a2 => rfl); (case a3 => exact Try.underlying33); (case a4 => exact HI.out); (case a5 => exact hz0); (case a6 => exact hz1); (case a7 => exact hz2); (case a8 => rfl); (case a9 => decide); (case a10 => rfl); (case a11 => rfl); (case a12 => rfl); (case hown => exact HO.out.alloc _); (case h63 => unfold maxLen; omega); (case hby => omega); (case hnews => exact news_at (Blk.made rfl (by simp))); (case hone => simp [Value.oneCell']); (case hbase => have := HK.out.size; simp; omega); intro A4 c4 w4 hown4 hg4 hsl4; have h04 := hown4; rw [HXT.out] at h04; have HO4 := hid h04; have HK4 := hid (Keep.grown (HK.out.alloc _) hg4 (fun k hk e => by have := (HO.out.lt k e).1; omega)); clear hown4 hg4 hsl4 h04))
        go_roundw
        case rel => exact ⟨j + 1, by omega, by go_num, A4, c4, rfl, HO4.out, HK4.out⟩
        case measure => simp [intOf]; omega
    · obtain rfl : W.length = j := by omega
      have hne := ownBlock_ne HO.out (HK.out.blk HB.out (fun h => h)) (by decide)
      have HNE := hid hne
      clear hne
      go_wp2_with fail
      go_end0
      have hm := HM.out
      refine ⟨rfl, A1, c1, ⟨?_, hm.bm, ?_, ?_, ?_⟩, (HK.out.mono (fun _ h => h.elim)).set _ _ (fun _ => rfl), ?_⟩
      · simpa [World.setCell] using Nat.le_trans hm.base HK.out.size
      · have h := (HK.out.blk HB.out (fun h => h)).set 0 (.slice A1 W.length c1)
        simpa using h
      · have h := ownsRow_other (own_base HO.out hm.base) (a := ⟨m, 0, none⟩) (.slice A1 W.length c1) (fun e => HNE.out e.symm)
        rw [List.take_of_length_le (by simp)] at h
        simpa using h
      · have h := ownsRow_keep hm.log HK.out (fun _ _ h => h)
        exact ownsRow_other h _ (fun e => ownBlock_ne h (HK.out.blk HB.out (fun h => h)) (by decide) e.symm)
      · intro k hk
        exact (HO.out.lt k ((own_any _ _ _ _ _).trans hk)).1
end Go.Proofs.Ytlkniogapdhcpaa
