/- Many machines of layer 11, as they lie: a step of one of them. -/
import Derived.Test.YtjloccnbcgkmgaaClaimO
import Derived.Test.YtjloccnbcgkmgaaClaimU
namespace Go.Proofs.Ytjloccnbcgkmgaa
open Go.RowKit
set_option linter.unusedVariables false
set_option linter.unusedSimpArgs false
set_option maxRecDepth 100000
/-- the machines' blocks, with their tickets -/
structure CMs (w : World) (C : CC) (K q a : Nat) (xs : List Nat) (ms : List Cm) : Prop where
  len : xs.length = ms.length
  cl : ∀ i (h : i < ms.length) (h2 : i < xs.length), ∃ gl c, ClAt C K i gl c w xs[i] (ms[i].cs [] []) ∧ CRow K i gl w ∧ gl ≠ a ∧ COk C K q c
  inj : ∀ i j (h : i < xs.length) (h2 : j < xs.length), xs[i] = xs[j] → i = j
theorem CMs.keep {S : Nat → Prop} {w w' : World} {C : CC} {K q a : Nat} {xs : List Nat} {ms : List Cm} (h : CMs w C K q a xs ms) (hk : Keep S w w') (hS : ∀ i (h : i < xs.length), ¬ S xs[i]) (hS2 : ∀ g cs, Blk w g 3 cs → g ≠ a → ¬ S g) : CMs w' C K q a xs ms := by
  refine ⟨h.len, fun i h1 h2 => ?_, h.inj⟩
  obtain ⟨gl, c, a1, a2, a3, a4⟩ := h.cl i h1 h2
  have hb : ∃ cs, Blk w gl 3 cs := by
    obtain ⟨cur, hg, _, _⟩ := a2
    exact ⟨cur.toList, by unfold Blk; simpa using hg⟩
  obtain ⟨cs, hb⟩ := hb
  exact ⟨gl, c, a1.keep hk (hS i h2), a2.keep hk (hS2 gl cs hb a3), a3, a4⟩
theorem snoc_lt {α : Type} {l : List α} {x : α} {i : Nat} (h : i < l.length) (h2 : i < (l ++ [x]).length) : (l ++ [x])[i] = l[i] := List.getElem_append_left h
theorem snoc_eq {α : Type} {l : List α} {x : α} {i : Nat} (h : i = l.length) (h2 : i < (l ++ [x]).length) : (l ++ [x])[i] = x := by subst h; simp
theorem CMs.lt {w : World} {C : CC} {K q a : Nat} {xs : List Nat} {ms : List Cm} (h : CMs w C K q a xs ms) (i : Nat) (hi : i < xs.length) : xs[i] < w.heap.size := by
  obtain ⟨gl, c, a1, _⟩ := h.cl i (by have := h.len; omega) hi
  obtain ⟨o, hb⟩ := a1.blk
  exact hb.lt
theorem CMs.ty {w : World} {C : CC} {K q a : Nat} {xs : List Nat} {ms : List Cm} (h : CMs w C K q a xs ms) (i : Nat) (hi : i < xs.length) : ∃ cs, Blk w xs[i] 73 cs := by
  obtain ⟨gl, c, a1, _⟩ := h.cl i (by have := h.len; omega) hi
  obtain ⟨o, hb⟩ := a1.blk
  exact ⟨_, hb⟩
theorem CMs.snoc {w w' : World} {C : CC} {K q a gl c x : Nat} {xs : List Nat} {ms : List Cm} (h : CMs w C K q a xs ms) (hk : Keep0 w w') (hcl : ClAt C K xs.length gl c w' x ⟨[], [], 0, false, 0, 0, 0, 0⟩) (hr : CRow K xs.length gl w') (hga : gl ≠ a) (hco : COk C K q c) (hx : w.heap.size ≤ x) :
    CMs w' C K q a (xs ++ [x]) (ms ++ [⟨0, false, 0, 0, 0, 0⟩]) := by
  have hl := h.len
  have h' := h.keep hk (fun _ _ h => h) (fun _ _ _ _ h => h)
  refine ⟨by simp [hl], fun i h1 h2 => ?_, fun i j h1 h2 he => ?_⟩
  · by_cases e : i < xs.length
    · rw [snoc_lt e, snoc_lt (show i < ms.length by omega)]
      exact h'.cl i (by omega) e
    · have e3 : i = xs.length := by simp at h2; omega
      rw [snoc_eq e3, snoc_eq (show i = ms.length by omega)]
      subst e3
      exact ⟨gl, c, hcl, hr, hga, hco⟩
  · simp only [List.length_append, List.length_singleton] at h1 h2
    by_cases e : i < xs.length
    · by_cases e2 : j < xs.length
      · rw [snoc_lt e, snoc_lt e2] at he
        exact h.inj i j e e2 he
      · rw [snoc_lt e, snoc_eq (show j = xs.length by omega)] at he
        have := h.lt i e
        omega
    · by_cases e2 : j < xs.length
      · rw [snoc_lt e2, snoc_eq (show i = xs.length by omega)] at he
        have := h.lt j e2
        omega
      · omega
theorem CMs.grown {w w' : World} {C : CC} {K q a base : Nat} {xs : List Nat} {ms : List Cm} {v : Value} {n : Nat} {zs : List Value} (h : CMs w C K q a xs ms) (ho : w.ownsRow base 32 1 v n zs) (hg : w.grownBy w' v.ownBlock) : CMs w' C K q a xs ms := by
  refine h.keep (Keep.grown (Keep.refl (fun k => v.ownBlock = some k) w) hg (fun k _ e => e)) (fun i hi e => ?_) (fun g cs hb _ e => ownBlock_ne ho hb (by decide) e.symm)
  obtain ⟨cs, hb⟩ := h.ty i hi
  exact ownBlock_ne ho hb (by decide) e.symm
/-- all that stands behind i turns -/
structure CM (B m a ob : Nat) (C : CC) (K q : Nat) (xs : List Nat) (W0 : List Int) (lv0 : Value) (N : Nat) (i : Nat) (w : World) (W : List Int) (L : List Acc) (ms : List Cm) (os : List Value) : Prop where
  mem : ∃ lv, MemAt B w m a lv W L ∧ (∀ k, lv.ownBlock = some k → lv0.ownBlock = some k ∨ N ≤ k)
  oi : OI K q W0 W L ms
  row : CMs w C K q a xs ms
  ovr : Blk w ob 4 os
  cnt : L.length ≤ i
  size : N ≤ w.heap.size
section
variable {B m a ob K q : Nat} {C : CC} {xs : List Nat} {W0 : List Int} {lv0 : Value} {N i : Nat} {w : World} {W : List Int} {L : List Acc} {ms : List Cm} {os : List Value}
theorem CM.more (h : CM B m a ob C K q xs W0 lv0 N i w W L ms os) : CM B m a ob C K q xs W0 lv0 N (i + 1) w W L ms os :=
  ⟨h.mem, h.oi, h.row, h.ovr, by have := h.cnt; omega, h.size⟩
theorem CM.set (h : CM B m a ob C K q xs W0 lv0 N i w W L ms os) (k : Nat) (b : Bool) : CM B m a ob C K q xs W0 lv0 N i (w.setCell ⟨ob, k, none⟩ (.bool b)) W L ms (os.set k (.bool b)) := by
  have hk : Keep (fun j => j = ob) w (w.setCell ⟨ob, k, none⟩ (.bool b)) := (Keep.refl _ _).set _ _ (fun _ => rfl)
  obtain ⟨⟨lv, h1, h2⟩, h3, h4, h5, h6, h9⟩ := h
  have hom : ob ≠ m := h5.ne h1.mem (by decide)
  have hoa : ob ≠ a := h5.ne h1.words (by decide)
  refine ⟨⟨lv, h1.keep hk ?_, h2⟩, h3, h4.keep hk (fun j hj e => ?_) (fun g cs hb _ e => hb.ne h5 (by decide) e), h5.set k _, h6, Nat.le_trans h9 hk.size⟩
  · rintro j (h | h | h) e
    · exact hom ((show j = ob from e).symm.trans h)
    · exact hoa ((show j = ob from e).symm.trans h)
    · exact ownBlock_ne h1.log h5 (by decide) (by rw [h]; exact congrArg some (show j = ob from e).symm)
  · obtain ⟨cs, hb⟩ := h4.ty j hj
    exact hb.ne h5 (by decide) e
theorem CM.step (h : CM B m a ob C K q xs W0 lv0 N i w W L ms os) (k : Nat) (hk : k < ms.length) (hk2 : k < xs.length) (h0 : ms[k].fin = 0) (hi : i ≤ 10000) :
    Calls Try.prog 14 #[ptr xs[k], ptr m] w fun e w' => e = .returned (.bool (decide ((cNext K k q (ms[k].cs W L)).fin ≠ 0))) ∧
      CM B m a ob C K q xs W0 lv0 N (i + 1) w' (cNext K k q (ms[k].cs W L)).W (cNext K k q (ms[k].cs W L)).L (ms.set k (Cm.of (cNext K k q (ms[k].cs W L)))) os ∧
      Keep (fun b => (b = m ∨ b = a ∨ b ∈ xs ∨ lv0.ownBlock = some b) ∨ N ≤ b) w w' := by
  obtain ⟨⟨lv, h1, h2⟩, h3, h4, h5, h6, h9⟩ := h
  have hoi := h3.step k hk h0
  obtain ⟨gl, c, c1, c2, c3, c4⟩ := h4.cl k hk hk2
  have hlog := cNext_logle (K := K) (s := k) (q := q) (ms[k].cs W L)
  have hcl : ClAt C K k gl c w xs[k] (ms[k].cs W L) := c1
  refine (clS_Step (ms[k].cs W L) h1 hcl c2 c3 (h3.inv k hk) c4 (by show L.length ≤ _; omega)).mono ?_
  rintro e w' ⟨rfl, lv', hm', hx', hk', ho'⟩
  have hm2 : MemAt B w' m a lv' (cNext K k q (ms[k].cs W L)).W (cNext K k q (ms[k].cs W L)).L := hm'
  have hx2 : ClAt C K k gl c w' xs[k] (cNext K k q (ms[k].cs W L)) := hx'
  refine ⟨rfl, ?_, hk'.mono ?_⟩
  · generalize cNext K k q (ms[k].cs W L) = t at *
    have hrow : ∀ g cs, Blk w g 3 cs → g ≠ a → ¬ (MF m a lv g ∨ g = xs[k]) := by
      rintro g cs hb hga ((h | h | h) | h)
      · exact hb.ne h1.mem (by decide) h
      · exact hga h
      · exact ownBlock_ne h1.log hb (by decide) h.symm
      · obtain ⟨cs2, hb2⟩ := h4.ty k hk2
        exact hb.ne hb2 (by decide) h
    refine ⟨⟨lv', hm2, ?_⟩, hoi, ?_, hk'.blk h5 ?_, ?_, Nat.le_trans h9 hk'.size⟩
    · intro b hb
      rcases ho' b hb with h | h
      · exact h2 b h
      · exact Or.inr (Nat.le_trans h9 h)
    · refine ⟨by rw [List.length_set]; exact h4.len, fun j hj hj2 => ?_, h4.inj⟩
      rw [List.length_set] at hj
      have hrk : ∀ gl s, CRow K s gl w → gl ≠ a → CRow K s gl w' := fun gl s hr hg => hr.keep hk' (by
        obtain ⟨cur, hgg, _, _⟩ := hr
        exact hrow gl cur.toList (by unfold Blk; simpa using hgg) hg)
      by_cases e : j = k
      · subst e
        rw [gset_self]
        exact ⟨gl, c, hx2, hrk gl _ c2 c3, c3, c4⟩
      · rw [gset_ne e]
        obtain ⟨gl2, cc2, d1, d2, d3, d4⟩ := h4.cl j hj hj2
        refine ⟨gl2, cc2, d1.keep hk' ?_, hrk gl2 _ d2 d3, d3, d4⟩
        rintro (h | h)
        · exact cl_far h1 d1 h
        · exact e (h4.inj j k hj2 hk2 h)
    · rintro (h | h)
      · rcases h with h | h | h
        · exact h5.ne h1.mem (by decide) h
        · exact h5.ne h1.words (by decide) h
        · exact ownBlock_ne h1.log h5 (by decide) h.symm
      · obtain ⟨cs2, hb2⟩ := h4.ty k hk2
        exact h5.ne hb2 (by decide) h
    · have : (ms[k].cs W L).L.length = L.length := rfl
      omega
  · rintro b ((h | h | h) | h)
    · exact Or.inl (Or.inl h)
    · exact Or.inl (Or.inr (Or.inl h))
    · rcases h2 b h with h | h
      · exact Or.inl (Or.inr (Or.inr (Or.inr h)))
      · exact Or.inr h
    · exact Or.inl (Or.inr (Or.inr (Or.inl (h ▸ List.getElem_mem hk2))))
end
def ovrC (ms : List Cm) : List Value := ms.map (fun c => .bool (decide (c.fin ≠ 0)))
theorem ovrC_start (n : Nat) : List.replicate n (Value.bool false) = ovrC (List.replicate n ⟨0, false, 0, 0, 0, 0⟩) := by simp [ovrC]
theorem ovrC_get (ms : List Cm) (k : Nat) (h : k < ms.length) : (ovrC ms)[k]? = some (.bool (decide (ms[k].fin ≠ 0))) := by simp [ovrC, h]
theorem ovrC_set (ms : List Cm) (k : Nat) (t : CS) (h : k < ms.length) : ovrC (ms.set k (Cm.of t)) = (ovrC ms).set k (.bool (decide (t.fin ≠ 0))) := by
  simp [ovrC, List.map_set, Cm.of]
end Go.Proofs.Ytjloccnbcgkmgaa
