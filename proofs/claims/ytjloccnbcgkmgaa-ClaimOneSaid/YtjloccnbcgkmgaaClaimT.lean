/- package claim: a machine that is played, and New. -/
import Derived.Test.YtjloccnbcgkmgaaClaimS
import Derived.Test.YtjloccnbcgkmgaaClaimNB
namespace Go.Proofs.Ytjloccnbcgkmgaa
open Go.RowKit
set_option linter.unusedVariables false
set_option linter.unusedSimpArgs false
set_option maxRecDepth 100000
section
variable {B : Nat} {w : World} {m a x : Nat} {lv : Value} {C : CC} {K s q gl c : Nat}
theorem ClAt.keep {S : Nat → Prop} {w' : World} {t : CS} (h : ClAt C K s gl c w x t) (hk : Keep S w w') (hx : ¬ S x) : ClAt C K s gl c w' x t := by
  obtain ⟨o, h1, h2⟩ := h
  exact ⟨o, h1, hk.blk h2 hx⟩
theorem ClAt.blk {t : CS} (h : ClAt C K s gl c w x t) : ∃ o, Blk w x 73 (ccs C K gl c o t) := ⟨_, h.choose_spec.2⟩
theorem cl_far {W : List Int} {L : List Acc} {t : CS} (hm : MemAt B w m a lv W L) (hx : ClAt C K s gl c w x t) : ¬ MF m a lv x := by
  obtain ⟨o, h⟩ := hx.blk
  exact cm_far hm h
theorem row_ne {t : CS} (hx : ClAt C K s gl c w x t) (hr : CRow K s gl w) : gl ≠ x := by
  obtain ⟨o, h⟩ := hx.blk
  obtain ⟨cur, h1, _⟩ := hr
  have hb : Blk w gl 3 cur.toList := by unfold Blk; simpa using h1
  exact hb.ne h (by decide)
theorem CRow.keep {S : Nat → Prop} {w' : World} (h : CRow K s gl w) (hk : Keep S w w') (hn : ¬ S gl) : CRow K s gl w' := hk.ints h hn
/-- the machine, its Mem, and its words' bounds, between steps -/
def ClSys (B m a x : Nat) (C : CC) (K s q gl c len L0 : Nat) (lv0 : Value) (N : Nat) (k : Nat) (w : World) (t : CS) : Prop :=
  ∃ lv, MemAt B w m a lv t.W t.L ∧ (∀ k, lv.ownBlock = some k → lv0.ownBlock = some k ∨ N ≤ k) ∧ ClAt C K s gl c w x t ∧ t.W.length = len ∧ t.L.length ≤ L0 + k ∧ CInv K q t ∧ N ≤ w.heap.size ∧ CRow K s gl w ∧ gl ≠ a
theorem ClSys.same {len L0 N k : Nat} {lv0 : Value} {t : CS} {w' : World} (h : ClSys B m a x C K s q gl c len L0 lv0 N k w t) (hk : Keep0 w w') : ClSys B m a x C K s q gl c len L0 lv0 N k w' t := by
  obtain ⟨lv1, h1, h2, h3, h4, h5, h6, h8, h9, h10⟩ := h
  exact ⟨lv1, h1.same hk, h2, h3.keep hk (fun h => h), h4, h5, h6, Nat.le_trans h8 hk.size, h9.keep hk (fun h => h), h10⟩
theorem ClSys.poke {len L0 N k : Nat} {lv0 : Value} {t : CS} (h : ClSys B m a x C K s q gl c len L0 lv0 N k w t) (i y : Int) (h0 : 0 ≤ i) (hi : i < len) :
    Calls Try.prog 38 #[ptr m, i64 i, i64 y] w fun e w' => e = .returned (.tuple #[]) ∧ ClSys B m a x C K s q gl c len L0 lv0 N k w' (cPk t i.toNat y) ∧ Keep (fun b => (b = m ∨ b = a ∨ b = x ∨ lv0.ownBlock = some b) ∨ N ≤ b) w w' := by
  obtain ⟨lv1, h1, h2, h3, h4, h5, h6, h8, h9, h10⟩ := h
  have hxa : x ≠ a := fun e => cl_far h1 h3 (Or.inr (Or.inl e))
  refine (mem_Poke i y h1 h0 (by rw [h4]; exact hi)).mono ?_
  rintro e w2 ⟨rfl, hm2, hk2⟩
  exact ⟨rfl, ⟨lv1, hm2, h2, h3.keep hk2 (fun e => hxa e), by simp [cPk, h4], h5, h6.poke _ _, Nat.le_trans h8 hk2.size, h9.keep hk2 (fun e => h10 e), h10⟩, hk2.mono (fun k e => Or.inl (Or.inr (Or.inl e)))⟩
theorem ClSys.step {len L0 N k : Nat} {lv0 : Value} {t : CS} (hC : COk C K q c) (h : ClSys B m a x C K s q gl c len L0 lv0 N k w t) (hk : k ≤ 2000) (hL : L0 ≤ 1000000) :
    Calls Try.prog 14 #[ptr x, ptr m] w fun e w' => e = .returned (.bool (cStp K s q t).2) ∧ ClSys B m a x C K s q gl c len L0 lv0 N (k + 1) w' (cStp K s q t).1 ∧ Keep (fun b => (b = m ∨ b = a ∨ b = x ∨ lv0.ownBlock = some b) ∨ N ≤ b) w w' := by
  obtain ⟨lv1, h1, h2, h3, h4, h5, h6, h8, h9, h10⟩ := h
  refine (clS_Step t h1 h3 h9 h10 h6 hC (by omega)).mono ?_
  rintro e w2 ⟨rfl, lv2, hm2, hx2, hk2, hl2⟩
  refine ⟨rfl, ⟨lv2, hm2, ?_, hx2, (cNext_len t).trans h4, ?_, h6.step, Nat.le_trans h8 hk2.size, h9.keep hk2 ?_, h10⟩, hk2.mono ?_⟩
  · intro k hk
    rcases hl2 k hk with h | h
    · exact h2 k h
    · exact Or.inr (Nat.le_trans h8 h)
  · show (cNext K s q t).L.length ≤ _
    by_cases h7 : t.fin = 0
    · rw [cNext_log t h7]; omega
    · rw [cNext_over h7]; omega
  · rintro (h | h)
    · exact ints_far h1 h9 h10 h
    · exact row_ne h3 h9 h
  · rintro k ((h | h | h) | h)
    · exact Or.inl (Or.inl h)
    · exact Or.inl (Or.inr (Or.inl h))
    · rcases h2 k h with h | h
      · exact Or.inl (Or.inr (Or.inr (Or.inr h)))
      · exact Or.inr h
    · exact Or.inl (Or.inr (Or.inr (Or.inl h)))
set_option maxHeartbeats 2000000 in
theorem play_claim (t : CS) (l : List Pk) (A0 : Option Addr) (kb ko kc most : Nat) (hm : MemAt B w m a lv t.W t.L) (hx : ClAt C K s gl c w x t) (hr : CRow K s gl w) (hga : gl ≠ a) (hi : CInv K q t) (hC : COk C K q c) (hL : t.L.length ≤ 1000000)
    (hmost : most ≤ 2000) (hl : l.length ≤ 1000000) (hA0 : 0 < l.length → A0 = some ⟨kb, ko, none⟩ ∧ kb < w.heap.size ∧ kb ≠ m ∧ kb ≠ a ∧ kb ≠ x ∧ lv.ownBlock ≠ some kb)
    (hcells : ∀ i (h : i < l.length), w.cell? ⟨kb, ko + i * 3, none⟩ = some (i64 l[i].at_) ∧ w.cell? ⟨kb, ko + i * 3 + 1, none⟩ = some (i64 l[i].w) ∧ w.cell? ⟨kb, ko + i * 3 + 2, none⟩ = some (i64 l[i].x)) :
    Calls Try.prog 18 #[ptr m, .iface 32 (ptr x), .slice A0 l.length kc, i64 most] w fun e w' =>
      e = .returned (.tuple #[i64 (playF (cStp K s q) cPk t.W.length l most 0 t).2.1, .bool (playF (cStp K s q) cPk t.W.length l most 0 t).2.2]) ∧
      (∃ k, ClSys B m a x C K s q gl c t.W.length t.L.length lv w.heap.size k w' (playF (cStp K s q) cPk t.W.length l most 0 t).1) ∧ Keep (fun k => (k = m ∨ k = a ∨ k = x ∨ lv.ownBlock = some k) ∨ w.heap.size ≤ k) w w' := by
  refine mem_Play (ClSys B m a x C K s q gl c t.W.length t.L.length lv w.heap.size) (cStp K s q) cPk t.W.length 14 32 x m (fun k => k = m ∨ k = a ∨ k = x ∨ lv.ownBlock = some k) w.heap.size l A0 kb ko kc most w t (by omega) hl (Nat.le_refl _) ?_ hcells ?_ ?_ ?_ ?_ (fun w => meth_cStep x w) callF_cStep ?_
  · intro h0
    obtain ⟨e, hb, hbm, hba, hbx, hbl⟩ := hA0 h0
    refine ⟨e, hb, ?_⟩
    rintro (h | h | h | h)
    · exact hbm h
    · exact hba h
    · exact hbx h
    · exact hbl h
  · rintro n w1 t1 ⟨lv1, h1, _, _, hlen, _⟩
    exact ⟨a, lv1, by rw [← hlen]; exact h1.mem⟩
  · rintro n w1 w2 t1 h hk
    exact h.same hk
  · rintro n w1 t1 i y ⟨p, hp, rfl, rfl⟩ h hi0 hi1
    exact h.poke p.w p.x hi0 hi1
  · rintro n w1 t1 hn h
    exact h.step hC (by omega) hL
  · exact ⟨lv, hm, fun _ h => Or.inl h, hx, rfl, by omega, hi, Nat.le_refl _, hr, hga⟩
theorem clplay_keeps {w w' : World} {b : Nat} {lv : Value} {W : List Int} {L : List Acc} {T : TypeId} {cs : List Value} {t : CS} (hb : Blk w b T cs) (hm : MemAt B w m a lv W L) (hx : ClAt C K s gl c w x t) (h1 : T ≠ 83) (h2 : T ≠ 3) (h3 : T ≠ 73) (h4 : T ≠ 54)
    (hk : Keep (fun k => (k = m ∨ k = a ∨ k = x ∨ lv.ownBlock = some k) ∨ w.heap.size ≤ k) w w') : Blk w' b T cs := hk.blk hb (by
  obtain ⟨o, hx⟩ := hx.blk
  rintro ((h | h | h | h) | h)
  · exact hb.ne hm.mem h1 h
  · exact hb.ne hm.words h2 h
  · exact hb.ne hx h3 h
  · exact ownBlock_ne hm.log hb h4 h.symm
  · have := hb.lt; omega)
theorem below_keep0 {w w' : World} (h : Below w.heap.size w w') : Keep0 w w' := ⟨h.os, h.tape, h.output, h.size, fun k hk _ => h.block k hk⟩
theorem claim_New (C : CC) (K s : Nat) (w : World) (hK : 1 ≤ K ∧ K ≤ 16) (hs : s ≤ 1000000) :
    Calls Try.prog 13 #[.agg #[i64 C.tt, i64 C.sr, i64 C.g, i64 C.lm, i64 C.r, i64 (K : Int), .slice C.PA C.pn C.pc, .slice C.LA C.ln C.lc], i64 (s : Int)] w fun e w' => ∃ x gl c, e = .returned (ptr x) ∧ w.heap.size ≤ x ∧ w.heap.size ≤ gl ∧ K ≤ c ∧ Keep0 w w' ∧
      (∀ W L, ClAt C K s gl c w' x ⟨W, L, 0, false, 0, 0, 0, 0⟩) ∧ CRow K s gl w' := by
  refine (callsIn_wide.1 (claim_New_in C.tt C.sr C.g C.lm C.r K C.PA C.pn C.pc C.LA C.ln C.lc s w hK hs)).mono ?_
  rintro e w' ⟨x, A, c, rfl, hx, hbel, hb, ho⟩
  have hA : A ≠ none := by
    rintro rfl
    rcases ho.2 with ⟨h1, h2⟩ | ⟨g, cap, cur, h1, _⟩
    · cases h1; omega
    · cases h1
  have hcap : K ≤ c := by
    rcases ho.2 with ⟨e, e0⟩ | ⟨g, cap, cur, e, _, _, hle, _⟩
    · cases e; exact absurd rfl hA
    · cases e; exact hle
  have hl : ((tks K s K).map Int.ofNat).length = K := by simp [tks_length]
  have ho' : w'.ownsRow w.heap.size 3 1 (.slice A ((tks K s K).map Int.ofNat).length c) ((tks K s K).map Int.ofNat).length (ints ((tks K s K).map Int.ofNat)) := by rw [hl]; exact ho
  obtain ⟨g, rfl, hg, hb2⟩ := ints_of_row ho' hA
  exact ⟨x, g, c, rfl, hx, hb2, hcap, below_keep0 hbel, fun W L => ⟨0, fun _ => rfl, hb⟩, hg⟩
end
end Go.Proofs.Ytjloccnbcgkmgaa
