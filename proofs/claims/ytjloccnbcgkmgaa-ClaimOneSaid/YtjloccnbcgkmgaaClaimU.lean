/- package claim: what a machine says; a machine kept over others' play. -/
import Derived.Test.YtjloccnbcgkmgaaClaimT
namespace Go.Proofs.Ytjloccnbcgkmgaa
open Go.RowKit
set_option linter.unusedVariables false
set_option linter.unusedSimpArgs false
set_option maxRecDepth 100000
section
variable {B : Nat} {w w' : World} {m a x : Nat} {lv : Value} {C : CC} {K s q gl c : Nat} {t : CS}
theorem ClAt.alloc (h : ClAt C K s gl c w x t) (o : Obj) : ClAt C K s gl c (w.alloc o) x t := h.keep ((Keep.refl (fun _ => False) w).alloc o) (fun h => h)
theorem ClAt.drew (h : ClAt C K s gl c w x t) : ClAt C K s gl c w.drew x t := h
theorem ClAt.drewN (h : ClAt C K s gl c w x t) (n : Nat) : ClAt C K s gl c (w.drewN n) x t := h
theorem ClAt.lt (h : ClAt C K s gl c w x t) : x < w.heap.size := by obtain ⟨o, h⟩ := h.blk; exact h.lt
def clAns (t : CS) : Value := .agg #[i64 (if t.fin = 2 then 3 else 0), i64 (t.n : Int), .bool false, i64 0]
theorem cl_Ans (h : ClAt C K s gl c w x t) : Calls Try.prog 17 #[ptr x] w (Ret (clAns t) w) := by
  obtain ⟨o, h⟩ := h.blk
  exact claim_Ans h
theorem cl_Word (h : ClAt C K s gl c w x t) : Calls Try.prog 21 #[ptr x] w (Ret (i64 t.set) w) := by
  obtain ⟨o, h⟩ := h.blk
  refine (claim_Word h).mono ?_
  rintro e w' ⟨rfl, rfl⟩
  exact ⟨rfl, Keep.refl _ _⟩
variable {W : List Int} {L : List Acc}
theorem clplay_keepx {C2 : CC} {K2 s2 gl2 c2 x2 : Nat} {t2 : CS} (hb : ClAt C2 K2 s2 gl2 c2 w x2 t2) (hm : MemAt B w m a lv W L) (hx : x2 ≠ x)
    (hk : Keep (fun k => (k = m ∨ k = a ∨ k = x ∨ lv.ownBlock = some k) ∨ w.heap.size ≤ k) w w') : ClAt C2 K2 s2 gl2 c2 w' x2 t2 := hb.keep hk (by
  obtain ⟨o, hb'⟩ := hb.blk
  rintro ((h | h | h | h) | h)
  · exact hb'.ne hm.mem (by decide) h
  · exact hb'.ne hm.words (by decide) h
  · exact hx h
  · exact ownBlock_ne hm.log hb' (by decide) h.symm
  · have := hb'.lt; omega)
theorem cl_over (h : ClAt C K s gl c w x t) (hf : t.fin ≠ 0) : Calls Try.prog 14 #[ptr x, ptr m] w fun e w' => e = .returned (.bool true) ∧ w = w' := by
  obtain ⟨o, h⟩ := h.blk
  have e1 : decide (t.fin ≠ 0) = true := by simpa using hf
  unfold ccs at h
  rw [e1] at h
  exact claim_Step_end (m := m) h
theorem clplay_ints {b : Nat} {T : List Int} (hb : Ints w b T) (hm : MemAt B w m a lv W L) (hx : ClAt C K s gl c w x t) (hba : b ≠ a)
    (hk : Keep (fun k => (k = m ∨ k = a ∨ k = x ∨ lv.ownBlock = some k) ∨ w.heap.size ≤ k) w w') : Ints w' b T := hk.ints hb (by
  obtain ⟨o, hx'⟩ := hx.blk
  have hlt := hb.lt
  obtain ⟨cur, h1, _⟩ := hb
  have hb' : Blk w b 3 cur.toList := by unfold Blk; simpa using h1
  rintro ((h | h | h | h) | h)
  · exact hb'.ne hm.mem (by decide) h
  · exact hba h
  · exact hb'.ne hx' (by decide) h
  · exact ownBlock_ne hm.log hb' (by decide) h.symm
  · omega)
theorem keep_far11 {S : Nat → Prop} {w w1 w2 : World} (h : Keep0 w w1) (hk : Keep S w1 w2) (hS : ∀ k, S k → w.heap.size ≤ k) : Keep0 w w2 :=
  (h.trans (S := fun _ => False) hk (fun k hkk hs => by have := hS k hs; omega))
theorem clplay_far {wb : World} {N : Nat} (hm : MemAt N w m a lv W L) (hx : N ≤ x) (hk : Keep (fun k => (k = m ∨ k = a ∨ k = x ∨ lv.ownBlock = some k) ∨ w.heap.size ≤ k) w w') (h0 : Keep0 wb w) (hN : N = wb.heap.size) : Keep0 wb w' := by
  subst hN
  exact keep_far11 h0 hk (by
    rintro k ((rfl | rfl | rfl | h) | h)
    · exact hm.bm
    · exact hm.ba
    · exact hx
    · exact (hm.log.lt k h).1
    · exact Nat.le_trans h0.size h)
theorem CInv.start {W : List Int} {L : List Acc} (ln : q + 2 * K ≤ W.length) (wl : W.length ≤ 10000) (kb : 1 ≤ K ∧ K ≤ 16) : CInv K q ⟨W, L, 0, false, 0, 0, 0, 0⟩ :=
  ⟨ln, wl, kb, by show (0 : Nat) ≤ 2; omega, fun _ => by show (0 : Nat) < K; omega, fun _ => ⟨rfl, rfl⟩, fun _ => ⟨rfl, rfl⟩⟩
end
end Go.Proofs.Ytjloccnbcgkmgaa
