/- breadlineref08: the document's machine, played. -/
import Derived.Test.YtdjfeapncpcmgaaRefNew
import Derived.Test.YtdjfeapncpcmgaaRefPlay
import Derived.Test.YtdjfeapncpcmgaaGhost
namespace Go.Proofs.Ytdjfeapncpcmgaa
open Go.RowKit
set_option linter.unusedVariables false
set_option linter.unusedSimpArgs false
set_option maxRecDepth 100000
section
variable {B : Nat} {w : World} {m y : Nat} {A : Option Addr} {ca : Nat} {lv : Value} {av le : Nat} {t s g l r k nd n st X : Int} {PA : Option Addr} {pn pc : Nat} {LA : Option Addr} {ln lc : Nat}
def RSys (B m y av le : Nat) (t s g l r k : Int) (PA : Option Addr) (pn pc : Nat) (LA : Option Addr) (ln lc : Nat) (nd n st X : Int) (len : Nat) (A0 : Option Addr) (lv0 : Value) (N : Nat) (i : Nat) (w : World) (x : PS) : Prop :=
  ∃ A c lv e, RefAt B w m A c lv x.W x.L ∧ Blk w y 106 (rcs t s g l r k PA pn pc LA ln lc nd n st x e) ∧ (x.next < 7 → e = x.extra) ∧
    (∀ b, (Value.slice A 0 0).ownBlock = some b → (Value.slice A0 0 0).ownBlock = some b ∨ N ≤ b) ∧ (∀ b, lv.ownBlock = some b → lv0.ownBlock = some b ∨ N ≤ b) ∧ x.W.length = len ∧ x.L.length ≤ i ∧ PInv av le n l (X + 1048576 * i) x ∧ N ≤ w.heap.size
set_option maxHeartbeats 2000000 in
theorem play_rpool (x : PS) (K : List Pk) (A0 : Option Addr) (b o c most : Nat) (hm : RefAt B w m A ca lv x.W x.L) (hy : Blk w y 106 (rcs t s g l r k PA pn pc LA ln lc nd n st x x.extra)) (hi : PInv av le n l X x) (hL : x.L = []) (hX : X ≤ 2199023255552) (hW : x.W.length ≤ 1000000)
    (hs0 : 1 ≤ s) (hs1 : s ≤ 8) (hv0 : 0 ≤ nd) (hv1 : nd ≤ 1000) (hu0 : 0 ≤ st) (hu1 : st ≤ 1000) (hav : (av : Int) = nd * (6 + 2 * s) + 1) (hle : (le : Int) = nd * (6 + 2 * s) + 2 + st)
    (hmost : most ≤ 2000) (hl : K.length ≤ 1000000) (hok : okPokes av le l X K) (hA0 : 0 < K.length → A0 = some ⟨b, o, none⟩ ∧ b < w.heap.size ∧ b ≠ m ∧ b ≠ y ∧ lv.ownBlock ≠ some b)
    (hcells : ∀ i (h : i < K.length), w.cell? ⟨b, o + i * 3, none⟩ = some (i64 K[i].at_) ∧ w.cell? ⟨b, o + i * 3 + 1, none⟩ = some (i64 K[i].w) ∧ w.cell? ⟨b, o + i * 3 + 2, none⟩ = some (i64 K[i].x)) :
    Calls Try.prog 32 #[ptr m, ptr y, .slice A0 K.length c, i64 most] w fun e w' =>
      e = .returned (.tuple #[i64 (playF (pStp av le n l) pPk x.W.length K most 0 x).2.1, .bool (playF (pStp av le n l) pPk x.W.length K most 0 x).2.2]) ∧
      (∃ i, RSys B m y av le t s g l r k PA pn pc LA ln lc nd n st X x.W.length A lv w.heap.size i w' (playF (pStp av le n l) pPk x.W.length K most 0 x).1) ∧ Keep (fun k => (k = m ∨ k = y ∨ lv.ownBlock = some k) ∨ w.heap.size ≤ k) w w' := by
  refine ref8_Play (RSys B m y av le t s g l r k PA pn pc LA ln lc nd n st X x.W.length A lv w.heap.size) (pStp av le n l) pPk x.W.length y m (fun k => k = m ∨ k = y ∨ lv.ownBlock = some k) w.heap.size K A0 b o c most w x (by omega) hl hW (Nat.le_refl _) ?_ hcells ?_ ?_ ?_ ?_ ?_
  · intro h0
    obtain ⟨e, hb, hbm, hby, hbl⟩ := hA0 h0
    refine ⟨e, hb, ?_⟩
    rintro (h | h | h)
    · exact hbm h
    · exact hby h
    · exact hbl h
  · rintro i w1 x1 ⟨A1, c1, lv1, e1, h1, _, _, _, _, hlen, _⟩
    exact ⟨A1, c1, lv1, by rw [← hlen]; exact h1.mem⟩
  · rintro i w1 w2 x1 ⟨A1, c1, lv1, e1, h1, h2, h3, h4, h5, h6, h7, h8, h9⟩ hk
    exact ⟨A1, c1, lv1, e1, h1.keep hk (fun _ _ h => h), hk.blk h2 (fun h => h), h3, h4, h5, h6, h7, h8, Nat.le_trans h9 hk.size⟩
  · rintro i w1 x1 j z ⟨p, hp, rfl, rfl⟩ ⟨A1, c1, lv1, e1, h1, h2, h3, h4, h5, h6, h7, h8, h9⟩ hi0 hi1
    refine (ref_PokeP p.w p.x h1 hi0 (by rw [h6]; exact hi1) (by omega)).mono ?_
    rintro e w2 ⟨rfl, A2, c2, lv2, g1, g2, g3, g4⟩
    have hpp := hok p hp
    refine ⟨rfl, ⟨A2, c2, lv2, e1, g1, g2.blk h2 (ry_far h1 h2), h3, ?_, ?_, by simp [pPk, h6], h7, h8.poke _ _ ⟨fun e => by have := hpp.1 (by omega); omega, fun e => hpp.2 (by omega)⟩, Nat.le_trans h9 g2.size⟩, g2.mono ?_⟩
    · intro b hb
      rcases g3 b hb with h | h
      · exact h4 b h
      · exact Or.inr (Nat.le_trans h9 h)
    · intro b hb
      rcases g4 b hb with h | h
      · exact h5 b h
      · exact Or.inr (Nat.le_trans h9 h)
    · rintro b (h | h)
      · exact Or.inl (Or.inl h)
      · rcases h5 b h with h | h
        · exact Or.inl (Or.inr (Or.inr h))
        · exact Or.inr h
  · rintro i w1 x1 hn ⟨A1, c1, lv1, e1, h1, h2, h3, h4, h5, h6, h7, h8, h9⟩
    refine (rpool_Step x1 h1 h2 h3 h8 (by omega) (by omega) (by omega) hs0 hs1 hv0 hv1 hu0 hu1 hav hle).mono ?_
    rintro e w2 ⟨rfl, A2, c2, lv2, e2, g1, g2, g3, g4, g5, g6⟩
    refine ⟨rfl, ⟨A2, c2, lv2, e2, g1, g2, g3, ?_, ?_, (pNext_len x1).trans h6, ?_, h8.step.more (by omega), Nat.le_trans h9 g4.size⟩, g4.mono ?_⟩
    · intro b hb
      rcases g5 b hb with h | h
      · exact h4 b h
      · exact Or.inr (Nat.le_trans h9 h)
    · intro b hb
      rcases g6 b hb with h | h
      · exact h5 b h
      · exact Or.inr (Nat.le_trans h9 h)
    · show (pNext av le n l x1).L.length ≤ _
      by_cases h77 : x1.next = 7
      · rw [pNext_over h77]; omega
      · rw [pNext_log x1 (by have := h8.nx; omega)]; omega
    · rintro b ((h | h) | h)
      · exact Or.inl (Or.inl h)
      · rcases h5 b h with h | h
        · exact Or.inl (Or.inr (Or.inr h))
        · exact Or.inr h
      · exact Or.inl (Or.inr (Or.inl h))
  · exact ⟨A, ca, lv, x.extra, hm, hy, fun _ => rfl, fun _ h => Or.inl h, fun _ h => Or.inl h, rfl, by rw [hL]; simp, hi.more (by omega), Nat.le_refl _⟩
end
end Go.Proofs.Ytdjfeapncpcmgaa
