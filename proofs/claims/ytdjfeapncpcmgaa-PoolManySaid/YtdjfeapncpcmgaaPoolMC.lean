/- Many machines of one pool, as they lie: a step of one of them. -/
import Derived.Test.YtdjfeapncpcmgaaPoolMB
import Derived.Test.YtdjfeapncpcmgaaPoolAloneW
namespace Go.Proofs.Ytdjfeapncpcmgaa
open Go.RowKit
set_option linter.unusedVariables false
set_option linter.unusedSimpArgs false
set_option maxRecDepth 100000

/-- the machines' blocks -/
structure MRow (w : World) (av : Nat) (nd lim : Int) (xs : List Nat) (ms : List Mc) : Prop where
  len : xs.length = ms.length
  blk : ∀ i (h : i < ms.length) (h2 : i < xs.length), Blk w xs[i] 100 (pcs av (av + 1 + ms[i].u) nd ms[i].n lim ms[i].next (ms[i].ps [] []))
  inj : ∀ i j (h : i < xs.length) (h2 : j < xs.length), xs[i] = xs[j] → i = j
theorem MRow.keep {S : Nat → Prop} {w w' : World} {av : Nat} {nd lim : Int} {xs : List Nat} {ms : List Mc} (h : MRow w av nd lim xs ms) (hk : Keep S w w') (hS : ∀ i (h : i < xs.length), ¬ S xs[i]) : MRow w' av nd lim xs ms :=
  ⟨h.len, fun i h1 h2 => hk.blk (h.blk i h1 h2) (hS i h2), h.inj⟩
theorem MRow.snoc {w w' : World} {av u : Nat} {nd n lim : Int} {xs : List Nat} {ms : List Mc} {x : Nat} (h : MRow w av nd lim xs ms) (hk : Keep0 w w') (hb : Blk w' x 100 (pcs av (av + 1 + u) nd n lim 0 (PS.mk [] [] 0 0 0 0 false))) (hx : w.heap.size ≤ x) : MRow w' av nd lim (xs ++ [x]) (ms ++ [⟨n, u, 0, 0, 0, 0, false⟩]) := by
  have hl := h.len
  have hlt : ∀ i (h2 : i < xs.length), xs[i] < w.heap.size := fun i h2 => (h.blk i (by omega) h2).lt
  refine ⟨by simp [hl], ?_, ?_⟩
  · intro i h1 h2
    by_cases e : i < xs.length
    · have e2 : i < ms.length := by omega
      simp only [List.getElem_append_left e, List.getElem_append_left e2]
      exact hk.blk (h.blk i e2 e) (fun h => h)
    · have e3 : i = xs.length := by simp at h2; omega
      have e4 : (xs ++ [x])[i] = x := by simp [e3]
      have e5 : (ms ++ [(⟨n, u, 0, 0, 0, 0, false⟩ : Mc)])[i] = ⟨n, u, 0, 0, 0, 0, false⟩ := by simp [e3, hl]
      rw [e4, e5]
      exact hb
  · intro i j h1 h2 he
    simp only [List.length_append, List.length_singleton] at h1 h2
    by_cases e : i < xs.length
    · by_cases e2 : j < xs.length
      · rw [List.getElem_append_left e, List.getElem_append_left e2] at he
        exact h.inj i j e e2 he
      · rw [List.getElem_append_left e] at he
        have e3 : j = xs.length := by omega
        subst e3
        simp at he
        have := hlt i e
        omega
    · by_cases e2 : j < xs.length
      · rw [List.getElem_append_left e2] at he
        have e3 : i = xs.length := by omega
        subst e3
        simp at he
        have := hlt j e2
        omega
      · omega

/-- all that stands behind i turns -/
structure MS (B m a ob av s : Nat) (nd lim X first : Int) (xs : List Nat) (W0 : List Int) (lv0 : Value) (N : Nat) (i : Nat) (w : World) (W : List Int) (L : List Acc) (ms : List Mc) (os : List Value) : Prop where
  mem : ∃ lv, MemAt B w m a lv W L ∧ (∀ k, lv.ownBlock = some k → lv0.ownBlock = some k ∨ N ≤ k)
  mi : MI av s lim (X + 1048576 * i) first W L ms
  row : MRow w av nd lim xs ms
  ovr : Blk w ob 4 os
  cnt : L.length ≤ i
  len : W.length = W0.length
  oth : ∀ j, (j < av ∨ av + s < j) → rd W j = rd W0 j
  size : N ≤ w.heap.size
section
variable {B m a ob av s : Nat} {nd lim X first : Int} {xs : List Nat} {W0 : List Int} {lv0 : Value} {N i : Nat} {w : World} {W : List Int} {L : List Acc} {ms : List Mc} {os : List Value}
theorem MS.keep0 {w' : World} (h : MS B m a ob av s nd lim X first xs W0 lv0 N i w W L ms os) (hk : Keep0 w w') : MS B m a ob av s nd lim X first xs W0 lv0 N i w' W L ms os := by
  obtain ⟨⟨lv, h1, h2⟩, h3, h4, h5, h6, h7, h8, h9⟩ := h
  exact ⟨⟨lv, h1.same hk, h2⟩, h3, h4.keep hk (fun _ _ h => h), hk.blk h5 (fun h => h), h6, h7, h8, Nat.le_trans h9 hk.size⟩
theorem MS.more (h : MS B m a ob av s nd lim X first xs W0 lv0 N i w W L ms os) : MS B m a ob av s nd lim X first xs W0 lv0 N (i + 1) w W L ms os := by
  obtain ⟨h1, h3, h4, h5, h6, h7, h8, h9⟩ := h
  refine ⟨h1, ⟨h3.len, fun j hj => ⟨(h3.mach j hj).1, (h3.mach j hj).2.more (by omega)⟩, h3.lease, by have := h3.wav; omega, h3.left, h3.poor⟩, h4, h5, by omega, h7, h8, h9⟩
theorem MS.set (h : MS B m a ob av s nd lim X first xs W0 lv0 N i w W L ms os) (k : Nat) (b : Bool) (hB : B ≤ ob) : MS B m a ob av s nd lim X first xs W0 lv0 N i (w.setCell ⟨ob, k, none⟩ (.bool b)) W L ms (os.set k (.bool b)) := by
  have hk : Keep (fun j => j = ob) w (w.setCell ⟨ob, k, none⟩ (.bool b)) := (Keep.refl _ _).set _ _ (fun _ => rfl)
  obtain ⟨⟨lv, h1, h2⟩, h3, h4, h5, h6, h7, h8, h9⟩ := h
  have hom : ob ≠ m := h5.ne h1.mem (by decide)
  have hoa : ob ≠ a := h5.ne h1.words (by decide)
  refine ⟨⟨lv, h1.keep hk ?_, h2⟩, h3, h4.keep hk (fun j hj e => (h4.blk j (by have := h4.len; omega) hj).ne h5 (by decide) e), h5.set k _, h6, h7, h8, Nat.le_trans h9 hk.size⟩
  rintro j (h | h | h) e
  · exact hom ((show j = ob from e).symm.trans h)
  · exact hoa ((show j = ob from e).symm.trans h)
  · exact ownBlock_ne h1.log h5 (by decide) (by rw [h]; exact congrArg some (show j = ob from e).symm)
theorem MS.step (h : MS B m a ob av s nd lim X first xs W0 lv0 N i w W L ms os) (k : Nat) (hk : k < ms.length) (hk2 : k < xs.length) (h7 : ms[k].next < 7) (hi : i ≤ 10000) (hX : X ≤ 1099511627776) :
    Calls Try.prog 29 #[ptr xs[k], ptr m] w fun e w' => e = .returned (.bool (decide ((pNext av (av + 1 + ms[k].u) ms[k].n lim (ms[k].ps W L)).next = 7))) ∧
      MS B m a ob av s nd lim X first xs W0 lv0 N (i + 1) w' (pNext av (av + 1 + ms[k].u) ms[k].n lim (ms[k].ps W L)).W (pNext av (av + 1 + ms[k].u) ms[k].n lim (ms[k].ps W L)).L (ms.set k (ms[k].of (pNext av (av + 1 + ms[k].u) ms[k].n lim (ms[k].ps W L)))) os ∧
      Keep (fun b => (b = m ∨ b = a ∨ b ∈ xs ∨ lv0.ownBlock = some b) ∨ N ≤ b) w w' := by
  obtain ⟨⟨lv, h1, h2⟩, h3, h4, h5, h6, h7', h8, h9⟩ := h
  obtain ⟨hu, hp⟩ := h3.mach k hk
  have hmi := h3.step k hk
  have hb := h4.blk k hk hk2
  have hlog := pNext_log (av := av) (le := av + 1 + ms[k].u) (n := ms[k].n) (lim := lim) (ms[k].ps W L) h7
  have hlen : (pNext av (av + 1 + ms[k].u) ms[k].n lim (ms[k].ps W L)).W.length = W.length := pNext_len _
  have hoth : ∀ j, (j < av ∨ av + s < j) → rd (pNext av (av + 1 + ms[k].u) ms[k].n lim (ms[k].ps W L)).W j = rd W j := fun j hj => pNext_other (ms[k].ps W L) j (by omega) (by omega)
  refine (pool_Step (ms[k].ps W L) h1 hb hp (by omega) (by show L.length ≤ _; omega)).mono ?_
  rintro e w' ⟨rfl, lv', hm', hx', hk', ho'⟩
  have hx2 : Blk w' xs[k] 100 (pcs av (av + 1 + ms[k].u) nd ms[k].n lim (pNext av (av + 1 + ms[k].u) ms[k].n lim (ms[k].ps W L)).next (pNext av (av + 1 + ms[k].u) ms[k].n lim (ms[k].ps W L))) := hx'
  have hm2 : MemAt B w' m a lv' (pNext av (av + 1 + ms[k].u) ms[k].n lim (ms[k].ps W L)).W (pNext av (av + 1 + ms[k].u) ms[k].n lim (ms[k].ps W L)).L := hm'
  refine ⟨rfl, ?_, hk'.mono ?_⟩
  · generalize pNext av (av + 1 + ms[k].u) ms[k].n lim (ms[k].ps W L) = t at *
    refine ⟨⟨lv', hm2, ?_⟩, ?_, ?_, hk'.blk h5 ?_, ?_, hlen.trans h7', fun j hj => (hoth j hj).trans (h8 j hj), Nat.le_trans h9 hk'.size⟩
    · intro b hb
      rcases ho' b hb with h | h
      · exact h2 b h
      · exact Or.inr (Nat.le_trans h9 h)
    · rw [show X + 1048576 * ((i + 1 : Nat) : Int) = X + 1048576 * (i : Int) + 1048576 from by omega]
      exact hmi
    · refine ⟨by rw [List.length_set]; exact h4.len, ?_, h4.inj⟩
      intro j hj hj2
      rw [List.length_set] at hj
      by_cases e : j = k
      · subst e
        rw [List.getElem_set_self]
        exact hx2
      · rw [List.getElem_set_ne (fun e2 => e e2.symm)]
        refine hk'.blk (h4.blk j hj hj2) ?_
        rintro (h | h)
        · exact pm_far h1 (h4.blk j hj hj2) h
        · exact e (h4.inj j k hj2 hk2 h)
    · rintro (h | h)
      · rcases h with h | h | h
        · exact h5.ne h1.mem (by decide) h
        · exact h5.ne h1.words (by decide) h
        · exact ownBlock_ne h1.log h5 (by decide) h.symm
      · exact h5.ne hb (by decide) h
    · rw [show (ms[k].ps W L).L.length = L.length from rfl] at hlog; omega
  · rintro b ((h | h | h) | h)
    · exact Or.inl (Or.inl h)
    · exact Or.inl (Or.inr (Or.inl h))
    · rcases h2 b h with h | h
      · exact Or.inl (Or.inr (Or.inr (Or.inr h)))
      · exact Or.inr h
    · exact Or.inl (Or.inr (Or.inr (Or.inl (h ▸ List.getElem_mem hk2))))
end

/-- how far the machines are: behind P turns of any order each is stepped in its turn -/
def Prog (av P i : Nat) (W : List Int) (L : List Acc) (ms : List Mc) : Prop :=
  ∀ j (h : j < ms.length), P ≤ i → ms[j].next = 7 ∨ psi av W L ms j h + tc ms.length j P (i - P) ≤ 6 + 10 * ms.length
theorem Prog.stay {av P i : Nat} {W : List Int} {L : List Acc} {ms : List Mc} (h : Prog av P i W L ms) (k : Nat) (hk : k < ms.length) (h7 : ms[k].next = 7) (hik : P ≤ i → i % ms.length = k) : Prog av P (i + 1) W L ms := by
  intro j hj hP
  by_cases e : P ≤ i
  · rcases h j hj e with h1 | h1
    · exact Or.inl h1
    · by_cases ej : j = k
      · subst ej; exact Or.inl h7
      · right
        rw [show i + 1 - P = (i - P) + 1 from by omega, tc, show P + (i - P) = i from by omega, hik e, if_neg (fun e2 => ej e2.symm)]
        omega
  · right
    have : i + 1 - P = 0 := by omega
    rw [this]
    have := psi_le (av := av) (W := W) (L := L) j hj
    simp [tc]; omega
theorem Prog.step {av P i : Nat} {lim : Int} {W : List Int} {L : List Acc} {ms : List Mc} (h : Prog av P i W L ms) (k : Nat) (hk : k < ms.length) (h7 : ms[k].next < 7) (hik : P ≤ i → i % ms.length = k) :
    Prog av P (i + 1) (pNext av (av + 1 + ms[k].u) ms[k].n lim (ms[k].ps W L)).W (pNext av (av + 1 + ms[k].u) ms[k].n lim (ms[k].ps W L)).L (ms.set k (ms[k].of (pNext av (av + 1 + ms[k].u) ms[k].n lim (ms[k].ps W L)))) := by
  intro j hj hP
  have hj' : j < ms.length := by simpa using hj
  have hps := psi_step (av := av) (lim := lim) (W := W) (L := L) k hk h7 j hj'
  have hbd := psi_le (av := av) (W := (pNext av (av + 1 + ms[k].u) ms[k].n lim (ms[k].ps W L)).W) (L := (pNext av (av + 1 + ms[k].u) ms[k].n lim (ms[k].ps W L)).L) j hj
  rw [List.length_set] at hbd ⊢
  by_cases e : P ≤ i
  · rcases h j hj' e with h1 | h1
    · by_cases ej : j = k
      · subst ej; omega
      · left; rw [List.getElem_set_ne (fun e2 => ej e2.symm)]; exact h1
    · right
      rw [show i + 1 - P = (i - P) + 1 from by omega, tc, show P + (i - P) = i from by omega, hik e]
      by_cases ej : j = k
      · subst ej
        rw [if_pos rfl] at hps ⊢
        omega
      · rw [if_neg ej] at hps
        rw [if_neg (fun e2 => ej e2.symm)]
        omega
  · right
    have : i + 1 - P = 0 := by omega
    rw [this]
    simp [tc]; omega
theorem Prog.done {av P : Nat} {W : List Int} {L : List Acc} {ms : List Mc} (h : Prog av P (P + 40 * ms.length * ms.length) W L ms) (j : Nat) (hj : j < ms.length) (h7 : ms[j].next ≤ 7) : ms[j].next = 7 := by
  rcases h j hj (by omega) with h1 | h1
  · exact h1
  · rw [show P + 40 * ms.length * ms.length - P = 40 * ms.length * ms.length from by omega, tc_rounds _ _ hj] at h1
    omega
end Go.Proofs.Ytdjfeapncpcmgaa
