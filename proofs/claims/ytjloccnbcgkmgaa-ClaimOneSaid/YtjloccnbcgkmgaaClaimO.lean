/- Machines that claim by turns, in plain Lean. -/
import Derived.Test.YtjloccnbcgkmgaaClaimR
import Derived.Test.YtjloccnbcgkmgaaTc
namespace Go.Proofs.Ytjloccnbcgkmgaa
open Go.RowKit
set_option linter.unusedVariables false
set_option linter.unusedSimpArgs false
/-- one machine of many: the machine i starts at ticket i -/
structure Cm where
  j : Nat
  seen : Bool
  saw : Int
  set : Int
  fin : Nat
  n : Nat
def Cm.cs (m : Cm) (W : List Int) (L : List Acc) : CS := ⟨W, L, m.j, m.seen, m.saw, m.set, m.fin, m.n⟩
def Cm.of (t : CS) : Cm := ⟨t.j, t.seen, t.saw, t.set, t.fin, t.n⟩
/-- what a step is -/
theorem cNext_kinds {K s q : Nat} {t : CS} (h : CInv K q t) (h0 : t.fin = 0) :
    ((cNext K s q t).W = t.W ∧ (((cNext K s q t).fin = 0 ∧ (cNext K s q t).j = t.j ∧ (cNext K s q t).seen = true ∧ (cNext K s q t).saw = rd t.W (q + 2 * ck K s t.j) ∧ st10 (rd t.W (q + 2 * ck K s t.j)) = 0) ∨
      (((cNext K s q t).fin = 0 ∨ (cNext K s q t).fin = 2 ∧ (cNext K s q t).j = K) ∧ (cNext K s q t).j = t.j + 1 ∧ (cNext K s q t).seen = false ∧ (st10 (rd t.W (q + 2 * ck K s t.j)) ≠ 0 ∨ (t.seen = true ∧ rd t.W (q + 2 * ck K s t.j) ≠ t.saw))))) ∨
    (t.seen = true ∧ rd t.W (q + 2 * ck K s t.j) = t.saw ∧ (cNext K s q t).W = t.W.set (q + 2 * ck K s t.j) (pNext6 t.saw 1) ∧ (cNext K s q t).fin = 1 ∧ (cNext K s q t).n = ck K s t.j ∧ (cNext K s q t).j = t.j) := by
  have nx : ∀ u : CS, u.j = t.j → (((cNx K u).fin = 0 ∨ (cNx K u).fin = 2 ∧ (cNx K u).j = K) ∧ (cNx K u).j = t.j + 1 ∧ (cNx K u).seen = false) := by
    intro u hu
    refine ⟨?_, by simp [cNx, hu], rfl⟩
    by_cases hl : u.j + 1 = K
    · exact Or.inr ⟨by simp [cNx, hl], hl⟩
    · exact Or.inl (by simp [cNx, hl])
  by_cases hs : t.seen = false
  · by_cases hz : st10 (rd t.W (q + 2 * ck K s t.j)) = 0
    · have e : cNext K s q t = cLook K s q t := by unfold cNext; rw [if_pos h0, if_pos hs, if_pos hz]
      rw [e]
      exact Or.inl ⟨rfl, Or.inl ⟨h0, rfl, rfl, rfl, hz⟩⟩
    · have e : cNext K s q t = cNx K (cLook K s q t) := by unfold cNext; rw [if_pos h0, if_pos hs, if_neg hz]
      rw [e]
      obtain ⟨a, b, c⟩ := nx (cLook K s q t) rfl
      exact Or.inl ⟨rfl, Or.inr ⟨a, b, c, Or.inl hz⟩⟩
  · have hs' : t.seen = true := by simpa using hs
    by_cases hz : rd t.W (q + 2 * ck K s t.j) = t.saw
    · have e : cNext K s q t = { cTake K s q t with fin := 1, n := ck K s t.j, set := pNext6 t.saw 1 } := by unfold cNext; rw [if_pos h0, if_neg hs, if_pos hz]
      rw [e]
      refine Or.inr ⟨hs', hz, ?_, rfl, rfl, rfl⟩
      show casW t.W (q + 2 * ck K s t.j) t.saw (pNext6 t.saw 1) = _
      simp [casW, hz]
    · have e : cNext K s q t = cNx K (cTake K s q t) := by unfold cNext; rw [if_pos h0, if_neg hs, if_neg hz]
      rw [e]
      obtain ⟨a, b, c⟩ := nx (cTake K s q t) rfl
      refine Or.inl ⟨?_, Or.inr ⟨a, b, c, Or.inr ⟨hs', hz⟩⟩⟩
      show casW t.W (q + 2 * ck K s t.j) t.saw (pNext6 t.saw 1) = _
      simp [casW, hz]
structure OI (K q : Nat) (W0 W : List Int) (L : List Acc) (ms : List Cm) : Prop where
  len : W.length = W0.length
  inv : ∀ i (h : i < ms.length), CInv K q (ms[i].cs W L)
  see : ∀ i (h : i < ms.length), ms[i].fin = 0 → ms[i].seen = true → st10 ms[i].saw = 0
  had : ∀ i (h : i < ms.length), ms[i].fin = 1 → ms[i].n < K ∧ st10 (rd W0 (q + 2 * ms[i].n)) = 0 ∧ st10 (rd W (q + 2 * ms[i].n)) ≠ 0
  uni : ∀ i j (h : i < ms.length) (h2 : j < ms.length), ms[i].fin = 1 → ms[j].fin = 1 → ms[i].n = ms[j].n → i = j
  rst : ∀ k, k < K → rd W (q + 2 * k) = rd W0 (q + 2 * k) ∨ ∃ (i : Nat) (h : i < ms.length), ms[i].fin = 1 ∧ ms[i].n = k
  all : ∀ i (h : i < ms.length), ms[i].fin = 2 → ms[i].j = K
  non : (∀ i (h : i < ms.length), ms[i].fin ≠ 1) → ∀ i (h : i < ms.length), (∀ j, j < ms[i].j → st10 (rd W0 (q + 2 * ck K i j)) ≠ 0) ∧ (ms[i].fin = 0 → ms[i].seen = true → ms[i].saw = rd W0 (q + 2 * ck K i ms[i].j))
theorem OI.start {K q : Nat} {W0 : List Int} (n : Nat) (ln : q + 2 * K ≤ W0.length) (wl : W0.length ≤ 10000) (kb : 1 ≤ K ∧ K ≤ 16) : OI K q W0 W0 [] (List.replicate n ⟨0, false, 0, 0, 0, 0⟩) := by
  refine ⟨rfl, ?_, ?_, ?_, ?_, fun k _ => Or.inl rfl, ?_, ?_⟩
  · intro i h
    rw [List.getElem_replicate]
    exact ⟨ln, wl, kb, by show (0 : Nat) ≤ 2; omega, fun _ => by show (0 : Nat) < K; omega, fun _ => ⟨rfl, rfl⟩, fun _ => ⟨rfl, rfl⟩⟩
  · intro i h _ hs; rw [List.getElem_replicate] at hs; cases hs
  · intro i h hf; rw [List.getElem_replicate] at hf; cases hf
  · intro i j h h2 hf; rw [List.getElem_replicate] at hf; cases hf
  · intro i h hf; rw [List.getElem_replicate] at hf; cases hf
  · intro _ i h
    refine ⟨fun j hj => ?_, fun _ hs => ?_⟩
    · rw [List.getElem_replicate] at hj; exact absurd hj (Nat.not_lt_zero _)
    · rw [List.getElem_replicate] at hs; cases hs
theorem gset_self {ms : List Cm} {k : Nat} {x : Cm} (h : k < (ms.set k x).length) : (ms.set k x)[k] = x := List.getElem_set_self _
theorem gset_ne {ms : List Cm} {k i : Nat} {x : Cm} (e : i ≠ k) (h : i < (ms.set k x).length) : (ms.set k x)[i] = ms[i]'(by simpa using h) := List.getElem_set_ne (fun e2 => e e2.symm) _
theorem OI.step {K q : Nat} {W0 W : List Int} {L : List Acc} {ms : List Cm} (h : OI K q W0 W L ms) (k : Nat) (hk : k < ms.length) (h0 : ms[k].fin = 0) :
    OI K q W0 (cNext K k q (ms[k].cs W L)).W (cNext K k q (ms[k].cs W L)).L (ms.set k (Cm.of (cNext K k q (ms[k].cs W L)))) := by
  have hi := h.inv k hk
  have hst := hi.step (s := k)
  have hln : (cNext K k q (ms[k].cs W L)).W.length = W.length := cNext_len _
  have hkd := cNext_kinds (s := k) hi h0
  have hj := hi.jb (by show ms[k].fin ≠ 2; omega)
  have hck := ck_lt (s := k) (j := ms[k].j) hi.kb.1
  have hqk : q + 2 * K ≤ W.length := hi.ln
  have ecs : (ms[k].cs W L).W = W := rfl
  have ej : (ms[k].cs W L).j = ms[k].j := rfl
  have es : (ms[k].cs W L).seen = ms[k].seen := rfl
  have esw : (ms[k].cs W L).saw = ms[k].saw := rfl
  rw [ecs, ej, es, esw] at hkd
  generalize cNext K k q (ms[k].cs W L) = t at *
  have hfk : (Cm.of t).cs t.W t.L = t := rfl
  have hinv : ∀ i (hh : i < (ms.set k (Cm.of t)).length), CInv K q ((ms.set k (Cm.of t))[i].cs t.W t.L) := by
    intro i hh
    by_cases e : i = k
    · subst e; rw [gset_self]; exact hst
    · rw [gset_ne e]
      have := (h.inv i (by simpa using hh)).words t.W hln
      exact ⟨this.ln, this.wl, this.kb, this.fb, this.jb, this.z, this.z2⟩
  rcases hkd with ⟨hW, hkd⟩ | ⟨hsn, hrd, hW, hf, hn, hjj⟩
  · have hf1 : (Cm.of t).fin ≠ 1 := by
      show t.fin ≠ 1
      rcases hkd with h2 | h2 <;> omega
    refine ⟨hln.trans h.len, hinv, ?_, ?_, ?_, ?_, ?_, ?_⟩
    · intro i hh hf hs
      by_cases e : i = k
      · subst e
        rw [gset_self] at hf hs ⊢
        rcases hkd with ⟨_, _, _, h4, h5⟩ | ⟨_, _, h4, _⟩
        · show st10 t.saw = 0; rw [h4]; exact h5
        · rw [show (Cm.of t).seen = t.seen from rfl, h4] at hs; cases hs
      · rw [gset_ne e] at hf hs ⊢; exact h.see i _ hf hs
    · intro i hh hf
      by_cases e : i = k
      · subst e; rw [gset_self] at hf; exact absurd hf hf1
      · rw [gset_ne e] at hf ⊢; rw [hW]; exact h.had i _ hf
    · intro i j hh hh2 hf hf2 hnn
      by_cases e : i = k
      · subst e; rw [gset_self] at hf; exact absurd hf hf1
      · by_cases e2 : j = k
        · subst e2; rw [gset_self] at hf2; exact absurd hf2 hf1
        · rw [gset_ne e] at hf hnn; rw [gset_ne e2] at hf2 hnn; exact h.uni i j _ _ hf hf2 hnn
    · intro k' hk'
      rw [hW]
      rcases h.rst k' hk' with h2 | ⟨i, hh, h2, h3⟩
      · exact Or.inl h2
      · have e : i ≠ k := by rintro rfl; omega
        exact Or.inr ⟨i, by simpa using hh, by rw [gset_ne e]; exact h2, by rw [gset_ne e]; exact h3⟩
    · intro i hh hf
      by_cases e : i = k
      · subst e
        rw [gset_self] at hf ⊢
        have hf' : t.fin = 2 := hf
        show t.j = K
        rcases hkd with h2 | ⟨h2 | h2, _⟩ <;> omega
      · rw [gset_ne e] at hf ⊢; exact h.all i _ hf
    · intro hno
      have hno' : ∀ i (hh : i < ms.length), ms[i].fin ≠ 1 := by
        intro i hh
        by_cases e : i = k
        · subst e; omega
        · have := hno i (by simpa using hh); rw [gset_ne e] at this; exact this
      have hsame : rd W (q + 2 * ck K k ms[k].j) = rd W0 (q + 2 * ck K k ms[k].j) := by
        rcases h.rst _ hck with h2 | ⟨i, hh, h2, _⟩
        · exact h2
        · exact absurd h2 (hno' i hh)
      intro i hh
      by_cases e : i = k
      · subst e
        rw [gset_self]
        obtain ⟨n1, n2⟩ := h.non hno' i hk
        rcases hkd with ⟨_, h3, _, h4, h5⟩ | ⟨_, h3, h4, h5⟩
        · refine ⟨fun j hj => n1 j (by have : j < t.j := hj; omega), fun _ _ => ?_⟩
          show t.saw = rd W0 (q + 2 * ck K i t.j)
          rw [h4, h3]; exact hsame
        · refine ⟨fun j hj => ?_, fun _ hs => ?_⟩
          · by_cases ejj : j < ms[i].j
            · exact n1 j ejj
            · have hj' : j < t.j := hj
              obtain rfl : j = ms[i].j := by omega
              rcases h5 with h6 | ⟨h6, h7⟩
              · rw [← hsame]; exact h6
              · exact absurd (by rw [n2 h0 h6]; exact hsame) h7
          · rw [show (Cm.of t).seen = t.seen from rfl, h4] at hs; cases hs
      · rw [gset_ne e]; exact h.non hno' i _
  · have hsaw := h.see k hk h0 hsn
    have hlt : q + 2 * ck K k ms[k].j < W.length := by omega
    have hfk1 : (Cm.of t).fin = 1 := hf
    have hfkn : (Cm.of t).n = ck K k ms[k].j := hn
    have hfree : ∀ i (hh : i < ms.length), ms[i].fin = 1 → ms[i].n ≠ ck K k ms[k].j := by
      intro i hh hf1 e
      have := (h.had i hh hf1).2.2
      rw [e, hrd] at this
      exact this hsaw
    have hrw : ∀ p, rd t.W p = if q + 2 * ck K k ms[k].j = p then pNext6 ms[k].saw 1 else rd W p := by
      intro p
      rw [hW, rd_set]
      by_cases e : q + 2 * ck K k ms[k].j = p
      · rw [if_pos ⟨e.symm ▸ (by first | rfl | exact e), by omega⟩, if_pos e]
      · rw [if_neg (fun h => e (by omega)), if_neg e]
    have hw0 : rd W (q + 2 * ck K k ms[k].j) = rd W0 (q + 2 * ck K k ms[k].j) := by
      rcases h.rst _ hck with h2 | ⟨i, hh, h2, h3⟩
      · exact h2
      · exact absurd h3 (hfree i hh h2)
    refine ⟨hln.trans h.len, hinv, ?_, ?_, ?_, ?_, ?_, ?_⟩
    · intro i hh hf2 hs
      by_cases e : i = k
      · subst e; rw [gset_self] at hf2; omega
      · rw [gset_ne e] at hf2 hs ⊢; exact h.see i _ hf2 hs
    · intro i hh hf2
      by_cases e : i = k
      · subst e
        rw [gset_self, hfkn]
        refine ⟨hck, by rw [← hw0, hrd]; exact hsaw, ?_⟩
        rw [hrw, if_pos rfl, st10_next]; decide
      · rw [gset_ne e] at hf2 ⊢
        obtain ⟨a, b, c⟩ := h.had i _ hf2
        refine ⟨a, b, ?_⟩
        rw [hrw, if_neg (by have := hfree i _ hf2; omega)]
        exact c
    · intro i j hh hh2 hf2 hf3 hnn
      by_cases e : i = k
      · subst e
        by_cases e2 : j = i
        · exact e2.symm
        · rw [gset_self, gset_ne e2] at hnn
          rw [gset_ne e2] at hf3
          exact absurd (hnn.symm.trans hfkn) (hfree j _ hf3)
      · by_cases e2 : j = k
        · subst e2
          rw [gset_self, gset_ne e] at hnn
          rw [gset_ne e] at hf2
          exact absurd (hnn.trans hfkn) (hfree i _ hf2)
        · rw [gset_ne e] at hf2 hnn; rw [gset_ne e2] at hf3 hnn; exact h.uni i j _ _ hf2 hf3 hnn
    · intro k' hk'
      by_cases e : k' = ck K k ms[k].j
      · exact Or.inr ⟨k, by simpa using hk, by rw [gset_self]; exact hf, by rw [gset_self, e]; exact hn⟩
      · rw [hrw, if_neg (by omega)]
        rcases h.rst k' hk' with h2 | ⟨i, hh, h2, h3⟩
        · exact Or.inl h2
        · have e2 : i ≠ k := by rintro rfl; omega
          exact Or.inr ⟨i, by simpa using hh, by rw [gset_ne e2]; exact h2, by rw [gset_ne e2]; exact h3⟩
    · intro i hh hf2
      by_cases e : i = k
      · subst e; rw [gset_self] at hf2; omega
      · rw [gset_ne e] at hf2 ⊢; exact h.all i _ hf2
    · intro hno
      have := hno k (by simpa using hk)
      rw [gset_self] at this
      exact absurd hf this
/-- how far the machines are -/
def ProgC (K P i : Nat) (ms : List Cm) : Prop := ∀ j (h : j < ms.length), P ≤ i → ms[j].fin ≠ 0 ∨ cNeed K (ms[j].cs [] []) + tc ms.length j P (i - P) ≤ 2 * K
theorem cNeed_le (K : Nat) (t : CS) : cNeed K t ≤ 2 * K := by unfold cNeed; split <;> omega
theorem ProgC.start {K P : Nat} {ms : List Cm} : ProgC K P 0 ms := by
  intro j hj hP
  right
  have := cNeed_le K (ms[j].cs [] [])
  simp [tc]; omega
theorem ProgC.stay {K P i : Nat} {ms : List Cm} (h : ProgC K P i ms) (k : Nat) (hk : k < ms.length) (h7 : ms[k].fin ≠ 0) (hik : P ≤ i → i % ms.length = k) : ProgC K P (i + 1) ms := by
  intro j hj hP
  by_cases e : P ≤ i
  · rcases h j hj e with h1 | h1
    · exact Or.inl h1
    · by_cases ej : j = k
      · subst ej; exact Or.inl h7
      · right
        rw [show i + 1 - P = (i - P) + 1 from by omega, tc, show P + (i - P) = i from by omega, hik e, if_neg (fun e2 => ej e2.symm)]
        omega
  · right
    have : i + 1 - P = 0 := by omega
    rw [this]
    have := cNeed_le K (ms[j].cs [] [])
    simp [tc]; omega
theorem ProgC.step {K q P i : Nat} {W : List Int} {L : List Acc} {ms : List Cm} (h : ProgC K P i ms) (k : Nat) (hk : k < ms.length) (hi : CInv K q (ms[k].cs W L)) (h0 : ms[k].fin = 0) (hik : P ≤ i → i % ms.length = k) :
    ProgC K P (i + 1) (ms.set k (Cm.of (cNext K k q (ms[k].cs W L)))) := by
  have hn := cNeed_step (s := k) hi h0
  have e1 : cNeed K (ms[k].cs W L) = cNeed K (ms[k].cs [] []) := rfl
  rw [e1] at hn
  generalize cNext K k q (ms[k].cs W L) = t at *
  have e2 : cNeed K ((Cm.of t).cs [] []) = cNeed K t := rfl
  intro j hj hP
  have hj' : j < ms.length := by simpa using hj
  rw [List.length_set]
  by_cases e : P ≤ i
  · have htc : tc ms.length j P (i + 1 - P) = tc ms.length j P (i - P) + (if k = j then 1 else 0) := by
      rw [show i + 1 - P = (i - P) + 1 from by omega, tc, show P + (i - P) = i from by omega, hik e]
    rw [htc]
    by_cases ej : j = k
    · subst ej
      right
      rw [gset_self, e2, if_pos rfl]
      rcases h j hj' e with h1 | h1
      · exact absurd h0 h1
      · omega
    · rw [gset_ne ej, if_neg (fun e2 => ej e2.symm)]
      exact h j hj' e
  · right
    have h1 : i + 1 - P = 0 := by omega
    rw [h1]
    have := cNeed_le K ((ms.set k (Cm.of t))[j].cs [] [])
    simp [tc]; omega
theorem ProgC.done {K P : Nat} {ms : List Cm} (hK : K ≤ 16) (h : ProgC K P (P + 40 * ms.length) ms) (j : Nat) (hj : j < ms.length) : ms[j].fin ≠ 0 := by
  rcases h j hj (by omega) with h1 | h1
  · exact h1
  · rw [show P + 40 * ms.length - P = 40 * ms.length from by omega, tc_rounds _ _ hj] at h1
    omega
/-- how many of the first i machines have a ticket -/
def oC (ms : List Cm) : Nat → Nat
  | 0 => 0
  | i + 1 => oC ms i + (if h : i < ms.length then (if ms[i].fin = 1 then 1 else 0) else 0)
/-- how many of the first k are had -/
def bC (H : List Bool) : Nat → Nat
  | 0 => 0
  | k + 1 => bC H k + (if H[k]? = some true then 1 else 0)
theorem oC_le (ms : List Cm) : ∀ i, oC ms i ≤ i := by
  intro i
  induction i with
  | zero => exact Nat.le_refl _
  | succ i ih => simp only [oC]; split <;> (try split) <;> omega
theorem oC_zero {ms : List Cm} : ∀ i, oC ms i = 0 → ∀ j (h : j < ms.length), j < i → ms[j].fin ≠ 1 := by
  intro i
  induction i with
  | zero => intro _ j _ h; omega
  | succ i ih =>
    intro h j hj hji hf
    simp only [oC] at h
    by_cases e : j = i
    · subst e; rw [dif_pos hj, if_pos hf] at h; omega
    · exact ih (by omega) j hj (by omega) hf
theorem bC_le (q : Nat) (W : List Int) (H : List Bool) : ∀ k, (∀ f, f < k → H[f]? = some true → st10 (rd W (q + 2 * f)) = 0) → bC H k ≤ fC q W k := by
  intro k
  induction k with
  | zero => intro _; exact Nat.le_refl _
  | succ k ih =>
    intro h
    have h1 := ih (fun f hf => h f (by omega))
    simp only [bC, fC]
    by_cases e : H[k]? = some true
    · rw [if_pos e, if_pos (h k (by omega) e)]; omega
    · rw [if_neg e]; split <;> omega
theorem bC_same (H : List Bool) (f : Nat) (b : Bool) : ∀ k, k ≤ f → bC (H.set f b) k = bC H k := by
  intro k
  induction k with
  | zero => intro _; rfl
  | succ k ih =>
    intro h
    simp only [bC]
    rw [ih (by omega), List.getElem?_set_ne (by omega)]
theorem bC_set (H : List Bool) (f : Nat) (h0 : H[f]? = some false) : ∀ k, f < k → bC (H.set f true) k = bC H k + 1 := by
  have hl : f < H.length := (List.getElem?_eq_some_iff.1 h0).1
  intro k
  induction k with
  | zero => intro h; omega
  | succ k ih =>
    intro h
    simp only [bC]
    by_cases e : f = k
    · subst e
      rw [bC_same H f true f (Nat.le_refl _), List.getElem?_set_self hl, h0]
      simp
    · rw [ih (by omega), List.getElem?_set_ne e]
      omega
theorem bC_none (n : Nat) : ∀ k, bC (List.replicate n false) k = 0 := by
  intro k
  induction k with
  | zero => rfl
  | succ k ih =>
    simp only [bC, ih]
    rw [if_neg]
    intro h
    have := List.getElem?_eq_some_iff.1 h
    simp at this
/-- between the rounds of the last loop -/
structure HI11 (K q : Nat) (W0 : List Int) (ms : List Cm) (i : Nat) (H : List Bool) : Prop where
  hl : H.length = 16
  tr : ∀ k, H[k]? = some true → k < K ∧ st10 (rd W0 (q + 2 * k)) = 0 ∧ ∃ (m : Nat) (h : m < ms.length), m < i ∧ ms[m].fin = 1 ∧ ms[m].n = k
  cn : bC H K = oC ms i
theorem HI11.start {K q : Nat} {W0 : List Int} {ms : List Cm} : HI11 K q W0 ms 0 (List.replicate 16 false) :=
  ⟨List.length_replicate, fun k h => (by obtain ⟨h1, h2⟩ := List.getElem?_eq_some_iff.1 h; rw [List.getElem_replicate] at h2; cases h2), bC_none 16 K⟩
theorem HI11.no {K q i : Nat} {W0 : List Int} {ms : List Cm} {H : List Bool} (h : HI11 K q W0 ms i H) (hi : i < ms.length) (hf : ms[i].fin ≠ 1) : HI11 K q W0 ms (i + 1) H ∧ oC ms (i + 1) = oC ms i := by
  have e : oC ms (i + 1) = oC ms i := by simp only [oC]; rw [dif_pos hi, if_neg hf]; omega
  refine ⟨⟨h.hl, fun k hk => ?_, by rw [e]; exact h.cn⟩, e⟩
  obtain ⟨a, b, m, hm, h1, h2⟩ := h.tr k hk
  exact ⟨a, b, m, hm, by omega, h2⟩
theorem HI11.yes {K q i : Nat} {W0 W : List Int} {L : List Acc} {ms : List Cm} {H : List Bool} (h : HI11 K q W0 ms i H) (ho : OI K q W0 W L ms) (hK : K ≤ 16) (hi : i < ms.length) (hf : ms[i].fin = 1) :
    HI11 K q W0 ms (i + 1) (H.set ms[i].n true) ∧ oC ms (i + 1) = oC ms i + 1 ∧ ms[i].n < K ∧ st10 (rd W0 (q + 2 * ms[i].n)) = 0 ∧ ∃ h : ms[i].n < H.length, H[ms[i].n] = false := by
  have e : oC ms (i + 1) = oC ms i + 1 := by simp only [oC]; rw [dif_pos hi, if_pos hf]
  obtain ⟨a, b, _⟩ := ho.had i hi hf
  have hl : ms[i].n < H.length := by rw [h.hl]; omega
  have hfa : H[ms[i].n] = false := by
    cases hc : H[ms[i].n] with
    | false => rfl
    | true =>
      obtain ⟨_, _, m, hm, h1, h2, h3⟩ := h.tr _ (List.getElem?_eq_some_iff.2 ⟨hl, hc⟩)
      have := ho.uni m i hm hi h2 hf h3
      omega
  have hfq : H[ms[i].n]? = some false := List.getElem?_eq_some_iff.2 ⟨hl, hfa⟩
  refine ⟨⟨by simp [h.hl], fun k hk => ?_, by rw [bC_set H _ hfq K a, h.cn, e]⟩, e, a, b, hl, hfa⟩
  by_cases ek : k = ms[i].n
  · subst ek; exact ⟨a, b, i, hi, by omega, hf, rfl⟩
  · rw [List.getElem?_set_ne (fun e2 => ek e2.symm)] at hk
    obtain ⟨a', b', m, hm, h1, h2⟩ := h.tr k hk
    exact ⟨a', b', m, hm, by omega, h2⟩
theorem HI11.end_ {K q : Nat} {W0 W : List Int} {L : List Acc} {ms : List Cm} {H : List Bool} (h : HI11 K q W0 ms ms.length H) (ho : OI K q W0 W L ms) (h1 : 1 ≤ ms.length) (hall : ∀ j (hj : j < ms.length), ms[j].fin ≠ 0) :
    oC ms ms.length ≤ fC q W0 K ∧ (fC q W0 K = 0 ∨ 1 ≤ oC ms ms.length) := by
  refine ⟨by rw [← h.cn]; exact bC_le q W0 H K (fun f _ hf => (h.tr f hf).2.1), ?_⟩
  by_cases e : oC ms ms.length = 0
  · left
    have hno : ∀ i (hi : i < ms.length), ms[i].fin ≠ 1 := fun i hi => oC_zero _ e i hi hi
    have h2 : ms[0].fin = 2 := by have := (ho.inv 0 (by omega)).fb; have a := hno 0 (by omega); have b := hall 0 (by omega); have : ms[0].fin ≤ 2 := this; omega
    have h3 := ho.all 0 (by omega) h2
    have h4 := (ho.non hno 0 (by omega)).1
    refine fC_none q W0 K (fun f hf => ?_)
    obtain ⟨j, hj, rfl⟩ := ck_onto (s := 0) hf
    exact h4 j (by omega)
  · right; omega
end Go.Proofs.Ytjloccnbcgkmgaa
