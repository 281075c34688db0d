/- Many machines of one pool that step by turns, in plain Lean. -/
import Derived.Test.YtdjfeapncpcmgaaPoolT
namespace Go.Proofs.Ytdjfeapncpcmgaa
open Go.RowKit
set_option linter.unusedVariables false
set_option linter.unusedSimpArgs false

/-- one machine of many: what it asks for, its stripe, what it knows -/
structure Mc where
  n : Int
  u : Nat
  next : Nat
  had : Int
  saw : Int
  extra : Int
  bad : Bool
instance : Inhabited Mc := ⟨⟨0, 0, 0, 0, 0, 0, false⟩⟩
def Mc.ps (m : Mc) (W : List Int) (L : List Acc) : PS := ⟨W, L, m.next, m.had, m.saw, m.extra, m.bad⟩
def Mc.of (m : Mc) (t : PS) : Mc := ⟨m.n, m.u, t.next, t.had, t.saw, t.extra, t.bad⟩
/-- what a machine's accesses added up to now -/
def Mc.own (m : Mc) : Int := pOwn m.n (m.ps [] [])
def isum (l : List Int) : Int := l.foldr (· + ·) 0
theorem isum_set (l : List Int) (i : Nat) (x : Int) (h : i < l.length) : isum (l.set i x) = isum l - l[i] + x := by
  induction l generalizing i with
  | nil => simp at h
  | cons y l ih =>
    cases i with
    | zero => simp [isum]; omega
    | succ i =>
      have := ih i (by simpa using h)
      simp [isum] at this ⊢
      omega
theorem PInv.words {av le : Nat} {n lim X : Int} {t : PS} (h : PInv av le n lim X t) (W' : List Int) (L' : List Acc) (hl : W'.length = t.W.length) (h1 : 0 ≤ rd W' le ∧ rd W' le ≤ lim) (h2 : 0 ≤ rd W' av ∧ rd W' av ≤ X) : PInv av le n lim X { t with W := W', L := L' } :=
  ⟨by rw [hl]; exact h.la, by rw [hl]; exact h.ll, h.ne, h.n1, h.m1, h1, h2, h.nx, h.s1, h.s3, h.s4, h.s5, h.b⟩

/-- what holds of a pool that many machines work at: `first` is what was left ahead of them -/
structure MI (av s : Nat) (lim X first : Int) (W : List Int) (L : List Acc) (ms : List Mc) : Prop where
  len : av + 1 + s ≤ W.length
  mach : ∀ i (h : i < ms.length), ms[i].u < s ∧ PInv av (av + 1 + ms[i].u) ms[i].n lim X (ms[i].ps W L)
  lease : ∀ u, u < s → 0 ≤ rd W (av + 1 + u) ∧ rd W (av + 1 + u) ≤ lim
  wav : 0 ≤ rd W av ∧ rd W av ≤ X
  left : leftN W av s = first + isum (ms.map Mc.own)
  poor : ∀ i (h : i < ms.length), ms[i].bad = true → first < isum (ms.map (fun m => m.n + lim)) + s * lim

theorem leftN_le (W : List Int) (av s : Nat) (lim : Int) (h : ∀ u, u < s → 0 ≤ rd W (av + 1 + u) ∧ rd W (av + 1 + u) ≤ lim) : leftN W av s ≤ rd W av + s * lim ∧ rd W av ≤ leftN W av s := by
  induction s with
  | zero => simp [leftN]
  | succ s ih =>
    have h1 := ih (fun u hu => h u (by omega))
    have h2 := h s (by omega)
    have e : ((s + 1 : Nat) : Int) * lim = s * lim + lim := by rw [show ((s + 1 : Nat) : Int) = (s : Int) + 1 from by omega, Int.add_mul, Int.one_mul]
    rw [leftN]
    omega
/-- a step leaves the words of the pool as they may be -/
theorem pNext_lease {av u s : Nat} {n lim X : Int} {t : PS} (h : PInv av (av + 1 + u) n lim X t) (hl : ∀ v, v < s → 0 ≤ rd t.W (av + 1 + v) ∧ rd t.W (av + 1 + v) ≤ lim) (v : Nat) (hv : v < s) :
    0 ≤ rd (pNext av (av + 1 + u) n lim t).W (av + 1 + v) ∧ rd (pNext av (av + 1 + u) n lim t).W (av + 1 + v) ≤ lim := by
  by_cases e : v = u
  · subst e; exact h.step.wl
  · have h2 : rd (pNext av (av + 1 + u) n lim t).W (av + 1 + v) = rd t.W (av + 1 + v) := by
      unfold pNext
      repeat' split
      all_goals simp [rd_casW, rd_set]
      all_goals omega
    rw [h2]; exact hl v hv
theorem isum_mono : ∀ (a b : List Int), a.length = b.length → (∀ i (h1 : i < a.length) (h2 : i < b.length), a[i] ≤ b[i]) → isum a ≤ isum b := by
  intro a
  induction a with
  | nil => intro b hl _; cases b with
    | nil => exact Int.le_refl _
    | cons => simp at hl
  | cons x a ih =>
    intro b hl h
    cases b with
    | nil => simp at hl
    | cons y b =>
      have h0 := h 0 (by simp) (by simp)
      have h1 := ih b (by simpa using hl) (fun i h1 h2 => by
        have := h (i + 1) (by simp; omega) (by simp; omega)
        simpa only [List.getElem_cons_succ] using this)
      simp [isum] at h0 h1 ⊢
      omega
theorem isum_neg (ms : List Mc) (f : Mc → Int) : isum (ms.map (fun m => -(f m))) = -isum (ms.map f) := by
  induction ms with
  | nil => rfl
  | cons m ms ih => simp [isum] at ih ⊢; omega
theorem Mc.own_low {av : Nat} {lim X : Int} {W : List Int} {L : List Acc} {m : Mc} (h : PInv av (av + 1 + m.u) m.n lim X (m.ps W L)) : -(m.n + lim) ≤ m.own := by
  have h1 := h.n1
  have h2 := h.m1
  have h4 := h.s4
  have hx := h.nx
  unfold Mc.own pOwn Mc.ps
  simp only [Mc.ps] at h4 hx ⊢
  split
  · split <;> omega
  · split
    · have := h4 (by omega); omega
    · omega

theorem pNext_bad {av le : Nat} {n lim : Int} {t : PS} (hb : (pNext av le n lim t).bad = true) : t.bad = true ∨ (t.next = 2 ∧ rd t.W av < n) := by
  by_cases c2 : t.next = 2
  · by_cases c : rd t.W av < n
    · exact Or.inr ⟨c2, c⟩
    · left; simpa [pNext, c2, c] using hb
  · left
    by_cases c0 : t.next = 0
    · simpa [pNext, c0] using hb
    · by_cases c1 : t.next = 1
      · simpa [pNext, c1] using hb
      · by_cases c3 : t.next = 3
        · simpa [pNext, c3] using hb
        · by_cases c4 : t.next = 4
          · simpa [pNext, c4] using hb
          · by_cases c5 : t.next = 5
            · simpa [pNext, c5] using hb
            · by_cases c6 : t.next = 6
              · simpa [pNext, c6] using hb
              · simpa [pNext, c0, c1, c2, c3, c4, c5, c6] using hb
theorem MI.step {av s : Nat} {lim X first : Int} {W : List Int} {L : List Acc} {ms : List Mc} (h : MI av s lim X first W L ms) (i : Nat) (hi : i < ms.length) :
    MI av s lim (X + 1048576) first (pNext av (av + 1 + ms[i].u) ms[i].n lim (ms[i].ps W L)).W (pNext av (av + 1 + ms[i].u) ms[i].n lim (ms[i].ps W L)).L (ms.set i (ms[i].of (pNext av (av + 1 + ms[i].u) ms[i].n lim (ms[i].ps W L)))) := by
  obtain ⟨hu, hp⟩ := h.mach i hi
  have hst := hp.step
  have hls := pNext_lease hp h.lease
  have hln : (pNext av (av + 1 + ms[i].u) ms[i].n lim (ms[i].ps W L)).W.length = W.length := pNext_len _
  have hown : leftN (pNext av (av + 1 + ms[i].u) ms[i].n lim (ms[i].ps W L)).W av s = leftN W av s + (pOwn ms[i].n (pNext av (av + 1 + ms[i].u) ms[i].n lim (ms[i].ps W L)) - pOwn ms[i].n (ms[i].ps W L)) := by
    by_cases h7 : (ms[i].ps W L).next = 7
    · rw [pNext_over h7]; show leftN W av s = _; omega
    · exact leftN_step hp hu (by have := hp.nx; omega)
  have hbad : (pNext av (av + 1 + ms[i].u) ms[i].n lim (ms[i].ps W L)).bad = true → ms[i].bad = true ∨ (ms[i].next = 2 ∧ rd W av < ms[i].n) := by
    intro hb
    exact pNext_bad hb
  generalize pNext av (av + 1 + ms[i].u) ms[i].n lim (ms[i].ps W L) = t at *
  have hps : ∀ m : Mc, (m.of t).ps t.W t.L = t := fun m => rfl
  have hmap : ∀ f : Mc → Int, (ms.set i (ms[i].of t)).map f = (ms.map f).set i (f (ms[i].of t)) := fun f => List.map_set
  refine ⟨by rw [hln]; exact h.len, ?_, hls, hst.wa, ?_, ?_⟩
  · intro j hj
    rw [List.length_set] at hj
    by_cases e : j = i
    · subst e
      rw [List.getElem_set_self]
      exact ⟨hu, hst⟩
    · rw [List.getElem_set_ne (fun e2 => e e2.symm)]
      obtain ⟨hu2, hp2⟩ := h.mach j hj
      exact ⟨hu2, (hp2.more (Y := X + 1048576) (by omega)).words t.W t.L hln (hls _ hu2) hst.wa⟩
  · rw [hown, h.left, hmap, isum_set _ _ _ (by simpa using hi)]
    simp only [List.getElem_map]
    have e1 : Mc.own (ms[i].of t) = pOwn ms[i].n t := rfl
    have e2 : Mc.own ms[i] = pOwn ms[i].n (ms[i].ps W L) := rfl
    rw [e1, e2]; omega
  · intro j hj hb
    rw [List.length_set] at hj
    have esum : isum ((ms.set i (ms[i].of t)).map (fun m => m.n + lim)) = isum (ms.map (fun m => m.n + lim)) := by
      rw [hmap, isum_set _ _ _ (by simpa using hi)]
      simp only [List.getElem_map]
      show _ - (ms[i].n + lim) + (ms[i].n + lim) = _
      omega
    rw [esum]
    by_cases e : j = i
    · subst e
      rw [List.getElem_set_self] at hb
      rcases hbad hb with h1 | ⟨h1, h2⟩
      · exact h.poor j hi h1
      · have hle := (leftN_le W av s lim h.lease).1
        have h0 : ms[j].own = 0 := by unfold Mc.own pOwn Mc.ps; simp [h1]
        have hmono := isum_mono ((ms.map (fun m => -(m.n + lim))).set j 0) (ms.map Mc.own) (by simp) (fun k k1 k2 => by
          have hk : k < ms.length := by simpa using k2
          by_cases e : k = j
          · subst e; simp [h0]
          · rw [List.getElem_set_ne (fun e2 => e e2.symm)]
            simp only [List.getElem_map]
            exact Mc.own_low (h.mach k hk).2)
        rw [isum_set _ _ _ (by simpa using hi), isum_neg] at hmono
        simp only [List.getElem_map] at hmono
        have hl := h.left
        have hm1 := hp.m1
        omega
    · rw [List.getElem_set_ne (fun e2 => e e2.symm)] at hb
      exact h.poor j hj hb
/-- how often a machine may yet alter a word -/
def mayN (x : Nat) : Nat := if x ≤ 3 then 2 else if x ≤ 6 then 1 else 0
theorem pNext_may {av le : Nat} {n lim : Int} {t : PS} (h7 : t.next < 7) : ((pNext av le n lim t).W = t.W ∧ mayN (pNext av le n lim t).next ≤ mayN t.next) ∨ mayN (pNext av le n lim t).next + 1 ≤ mayN t.next := by
  obtain ⟨W, L, next, had, saw, extra, bad⟩ := t
  simp only at h7
  have hx : next = 0 ∨ next = 1 ∨ next = 2 ∨ next = 3 ∨ next = 4 ∨ next = 5 ∨ next = 6 := by omega
  rcases hx with rfl | rfl | rfl | rfl | rfl | rfl | rfl
  · by_cases c : n ≤ rd W le <;> simp [pNext, mayN, c]
  · by_cases c : rd W le = had <;> simp [pNext, mayN, c, casW]
  · by_cases c : rd W av < n <;> simp [pNext, mayN, c]
  · by_cases c : rd W av = saw <;> by_cases c2 : extra = 0 <;> simp [pNext, mayN, c, c2, casW]
  · by_cases c : rd W le + extra ≤ lim <;> simp [pNext, mayN, c]
  · by_cases c : rd W le = had <;> simp [pNext, mayN, c, casW]
  · simp [pNext, mayN]
def nsum (l : List Nat) : Nat := l.foldr (· + ·) 0
theorem nsum_set (l : List Nat) (i : Nat) (x : Nat) (h : i < l.length) : nsum (l.set i x) + l[i] = nsum l + x := by
  induction l generalizing i with
  | nil => simp at h
  | cons y l ih =>
    cases i with
    | zero => simp [nsum]; omega
    | succ i =>
      have := ih i (by simpa using h)
      simp [nsum] at this ⊢
      omega
theorem nsum_ge (l : List Nat) (i : Nat) (h : i < l.length) : l[i] ≤ nsum l := by
  have := nsum_set l i 0 h
  omega
theorem nsum_two (l : List Nat) (i j : Nat) (h : i < l.length) (h2 : j < l.length) (hij : i ≠ j) : l[i] + l[j] ≤ nsum l := by
  have h3 := nsum_set l i 0 h
  have h4 := nsum_ge (l.set i 0) j (by simpa using h2)
  rw [List.getElem_set_ne hij] at h4
  omega
/-- how many steps machine i needs yet, whatever the others do meanwhile -/
def psi (av : Nat) (W : List Int) (L : List Acc) (ms : List Mc) (i : Nat) (h : i < ms.length) : Nat :=
  pNeed av (av + 1 + ms[i].u) (ms[i].ps W L) + 5 * (nsum (ms.map (fun m => mayN m.next)) - mayN ms[i].next)
theorem psi_step {av : Nat} {lim : Int} {W : List Int} {L : List Acc} {ms : List Mc} (i : Nat) (hi : i < ms.length) (h7 : ms[i].next < 7) (j : Nat) (hj : j < ms.length) :
    psi av (pNext av (av + 1 + ms[i].u) ms[i].n lim (ms[i].ps W L)).W (pNext av (av + 1 + ms[i].u) ms[i].n lim (ms[i].ps W L)).L (ms.set i (ms[i].of (pNext av (av + 1 + ms[i].u) ms[i].n lim (ms[i].ps W L)))) j (by simpa using hj) + (if j = i then 1 else 0) ≤ psi av W L ms j hj := by
  have hn := pNeed_step (av := av) (le := av + 1 + ms[i].u) (n := ms[i].n) (lim := lim) (t := ms[i].ps W L) h7
  have hm := pNext_may (av := av) (le := av + 1 + ms[i].u) (n := ms[i].n) (lim := lim) (t := ms[i].ps W L) h7
  generalize pNext av (av + 1 + ms[i].u) ms[i].n lim (ms[i].ps W L) = t at *
  have hmap : (ms.set i (ms[i].of t)).map (fun m => mayN m.next) = (ms.map (fun m => mayN m.next)).set i (mayN t.next) := List.map_set
  have hs := nsum_set (ms.map (fun m => mayN m.next)) i (mayN t.next) (by simpa using hi)
  have hg := nsum_ge (ms.map (fun m => mayN m.next)) i (by simpa using hi)
  simp only [List.getElem_map] at hs hg
  unfold psi
  rw [hmap]
  by_cases e : j = i
  · subst e
    simp only [List.getElem_set_self, if_true]
    have e1 : (ms[j].of t).u = ms[j].u := rfl
    have e2 : (ms[j].of t).ps t.W t.L = t := rfl
    have e3 : (ms[j].of t).next = t.next := rfl
    rw [e1, e2, e3]
    have e4 : (ms[j].ps W L).next = ms[j].next := rfl
    rw [e4] at hm
    omega
  · simp only [List.getElem_set_ne (fun e2 => e e2.symm)]
    rw [if_neg e]
    have h2 := nsum_two (ms.map (fun m => mayN m.next)) i j (by simpa using hi) (by simpa using hj) (fun e2 => e e2.symm)
    simp only [List.getElem_map] at h2
    have e4 : (ms[i].ps W L).next = ms[i].next := rfl
    rw [e4] at hm
    have hL : ∀ (W1 : List Int) (L1 L2 : List Acc), pNeed av (av + 1 + ms[j].u) (ms[j].ps W1 L1) = pNeed av (av + 1 + ms[j].u) (ms[j].ps W1 L2) := fun _ _ _ => rfl
    have hw : (ms[i].ps W L).W = W := rfl
    rw [hw] at hm
    rcases hm with ⟨hm, hm2⟩ | hm
    · rw [hm, hL W t.L L]
      omega
    · have ha := pNeed_any (av := av) (le := av + 1 + ms[j].u) t.W (ms[j].ps W L)
      have hb : pNeed av (av + 1 + ms[j].u) (ms[j].ps t.W t.L) ≤ pNeed av (av + 1 + ms[j].u) (ms[j].ps W L) + 5 := ha
      omega
end Go.Proofs.Ytdjfeapncpcmgaa
