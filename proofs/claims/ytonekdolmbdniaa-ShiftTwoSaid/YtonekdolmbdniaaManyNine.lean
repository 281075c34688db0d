/- ManyNine: the texts PoolM, PoolMB, ShiftM, ShiftMC, in one. -/
import Derived.Test.YtonekdolmbdniaaPoolT
import Derived.Test.YtonekdolmbdniaaShiftP
import Derived.Test.YtonekdolmbdniaaLawNineC
namespace Go.Proofs.Ytonekdolmbdniaa
open Go.RowKit
set_option linter.unusedVariables false
set_option linter.unusedSimpArgs false

/-- one machine of many: what it asks for, its stripe, what it knows -/
structure Mc where
  n : Int
  u : Nat
  next : Nat
  had : Int
  saw : Int
  extra : Int
  bad : Bool
instance : Inhabited Mc := ⟨⟨0, 0, 0, 0, 0, 0, false⟩⟩
def Mc.ps (m : Mc) (W : List Int) (L : List Acc) : PS := ⟨W, L, m.next, m.had, m.saw, m.extra, m.bad⟩
def Mc.of (m : Mc) (t : PS) : Mc := ⟨m.n, m.u, t.next, t.had, t.saw, t.extra, t.bad⟩
/-- what a machine's accesses added up to now -/
def Mc.own (m : Mc) : Int := pOwn m.n (m.ps [] [])
def isum (l : List Int) : Int := l.foldr (· + ·) 0
theorem isum_set (l : List Int) (i : Nat) (x : Int) (h : i < l.length) : isum (l.set i x) = isum l - l[i] + x := by
  induction l generalizing i with
  | nil => simp at h
  | cons y l ih =>
    cases i with
    | zero => simp [isum]; omega
    | succ i =>
      have := ih i (by simpa using h)
      simp [isum] at this ⊢
      omega
theorem PInv.words {av le : Nat} {n lim X : Int} {t : PS} (h : PInv av le n lim X t) (W' : List Int) (L' : List Acc) (hl : W'.length = t.W.length) (h1 : 0 ≤ rd W' le ∧ rd W' le ≤ lim) (h2 : 0 ≤ rd W' av ∧ rd W' av ≤ X) : PInv av le n lim X { t with W := W', L := L' } :=
  ⟨by rw [hl]; exact h.la, by rw [hl]; exact h.ll, h.ne, h.n1, h.m1, h1, h2, h.nx, h.s1, h.s3, h.s4, h.s5, h.b⟩

/-- what holds of a pool that many machines work at: `first` is what was left ahead of them -/
structure MI (av s : Nat) (lim X first : Int) (W : List Int) (L : List Acc) (ms : List Mc) : Prop where
  len : av + 1 + s ≤ W.length
  mach : ∀ i (h : i < ms.length), ms[i].u < s ∧ PInv av (av + 1 + ms[i].u) ms[i].n lim X (ms[i].ps W L)
  lease : ∀ u, u < s → 0 ≤ rd W (av + 1 + u) ∧ rd W (av + 1 + u) ≤ lim
  wav : 0 ≤ rd W av ∧ rd W av ≤ X
  left : leftN W av s = first + isum (ms.map Mc.own)
  poor : ∀ i (h : i < ms.length), ms[i].bad = true → first < isum (ms.map (fun m => m.n + lim)) + s * lim

theorem leftN_le (W : List Int) (av s : Nat) (lim : Int) (h : ∀ u, u < s → 0 ≤ rd W (av + 1 + u) ∧ rd W (av + 1 + u) ≤ lim) : leftN W av s ≤ rd W av + s * lim ∧ rd W av ≤ leftN W av s := by
  induction s with
  | zero => simp [leftN]
  | succ s ih =>
    have h1 := ih (fun u hu => h u (by omega))
    have h2 := h s (by omega)
    have e : ((s + 1 : Nat) : Int) * lim = s * lim + lim := by rw [show ((s + 1 : Nat) : Int) = (s : Int) + 1 from by omega, Int.add_mul, Int.one_mul]
    rw [leftN]
    omega
/-- a step leaves the words of the pool as they may be -/
theorem pNext_lease {av u s : Nat} {n lim X : Int} {t : PS} (h : PInv av (av + 1 + u) n lim X t) (hl : ∀ v, v < s → 0 ≤ rd t.W (av + 1 + v) ∧ rd t.W (av + 1 + v) ≤ lim) (v : Nat) (hv : v < s) :
    0 ≤ rd (pNext av (av + 1 + u) n lim t).W (av + 1 + v) ∧ rd (pNext av (av + 1 + u) n lim t).W (av + 1 + v) ≤ lim := by
  by_cases e : v = u
  · subst e; exact h.step.wl
  · have h2 : rd (pNext av (av + 1 + u) n lim t).W (av + 1 + v) = rd t.W (av + 1 + v) := by
      unfold pNext
      repeat' split
      all_goals simp [rd_casW, rd_set]
      all_goals omega
    rw [h2]; exact hl v hv
theorem isum_mono : ∀ (a b : List Int), a.length = b.length → (∀ i (h1 : i < a.length) (h2 : i < b.length), a[i] ≤ b[i]) → isum a ≤ isum b := by
  intro a
  induction a with
  | nil => intro b hl _; cases b with
    | nil => exact Int.le_refl _
    | cons => simp at hl
  | cons x a ih =>
    intro b hl h
    cases b with
    | nil => simp at hl
    | cons y b =>
      have h0 := h 0 (by simp) (by simp)
      have h1 := ih b (by simpa using hl) (fun i h1 h2 => by
        have := h (i + 1) (by simp; omega) (by simp; omega)
        simpa only [List.getElem_cons_succ] using this)
      simp [isum] at h0 h1 ⊢
      omega
theorem isum_neg (ms : List Mc) (f : Mc → Int) : isum (ms.map (fun m => -(f m))) = -isum (ms.map f) := by
  induction ms with
  | nil => rfl
  | cons m ms ih => simp [isum] at ih ⊢; omega
theorem Mc.own_low {av : Nat} {lim X : Int} {W : List Int} {L : List Acc} {m : Mc} (h : PInv av (av + 1 + m.u) m.n lim X (m.ps W L)) : -(m.n + lim) ≤ m.own := by
  have h1 := h.n1
  have h2 := h.m1
  have h4 := h.s4
  have hx := h.nx
  unfold Mc.own pOwn Mc.ps
  simp only [Mc.ps] at h4 hx ⊢
  split
  · split <;> omega
  · split
    · have := h4 (by omega); omega
    · omega

theorem pNext_bad {av le : Nat} {n lim : Int} {t : PS} (hb : (pNext av le n lim t).bad = true) : t.bad = true ∨ (t.next = 2 ∧ rd t.W av < n) := by
  by_cases c2 : t.next = 2
  · by_cases c : rd t.W av < n
    · exact Or.inr ⟨c2, c⟩
    · left; simpa [pNext, c2, c] using hb
  · left
    by_cases c0 : t.next = 0
    · simpa [pNext, c0] using hb
    · by_cases c1 : t.next = 1
      · simpa [pNext, c1] using hb
      · by_cases c3 : t.next = 3
        · simpa [pNext, c3] using hb
        · by_cases c4 : t.next = 4
          · simpa [pNext, c4] using hb
          · by_cases c5 : t.next = 5
            · simpa [pNext, c5] using hb
            · by_cases c6 : t.next = 6
              · simpa [pNext, c6] using hb
              · simpa [pNext, c0, c1, c2, c3, c4, c5, c6] using hb
theorem MI.step {av s : Nat} {lim X first : Int} {W : List Int} {L : List Acc} {ms : List Mc} (h : MI av s lim X first W L ms) (i : Nat) (hi : i < ms.length) :
    MI av s lim (X + 1048576) first (pNext av (av + 1 + ms[i].u) ms[i].n lim (ms[i].ps W L)).W (pNext av (av + 1 + ms[i].u) ms[i].n lim (ms[i].ps W L)).L (ms.set i (ms[i].of (pNext av (av + 1 + ms[i].u) ms[i].n lim (ms[i].ps W L)))) := by
  obtain ⟨hu, hp⟩ := h.mach i hi
  have hst := hp.step
  have hls := pNext_lease hp h.lease
  have hln : (pNext av (av + 1 + ms[i].u) ms[i].n lim (ms[i].ps W L)).W.length = W.length := pNext_len _
  have hown : leftN (pNext av (av + 1 + ms[i].u) ms[i].n lim (ms[i].ps W L)).W av s = leftN W av s + (pOwn ms[i].n (pNext av (av + 1 + ms[i].u) ms[i].n lim (ms[i].ps W L)) - pOwn ms[i].n (ms[i].ps W L)) := by
    by_cases h7 : (ms[i].ps W L).next = 7
    · rw [pNext_over h7]; show leftN W av s = _; omega
    · exact leftN_step hp hu (by have := hp.nx; omega)
  have hbad : (pNext av (av + 1 + ms[i].u) ms[i].n lim (ms[i].ps W L)).bad = true → ms[i].bad = true ∨ (ms[i].next = 2 ∧ rd W av < ms[i].n) := by
    intro hb
    exact pNext_bad hb
  generalize pNext av (av + 1 + ms[i].u) ms[i].n lim (ms[i].ps W L) = t at *
  have hps : ∀ m : Mc, (m.of t).ps t.W t.L = t := fun m => rfl
  have hmap : ∀ f : Mc → Int, (ms.set i (ms[i].of t)).map f = (ms.map f).set i (f (ms[i].of t)) := fun f => List.map_set
  refine ⟨by rw [hln]; exact h.len, ?_, hls, hst.wa, ?_, ?_⟩
  · intro j hj
    rw [List.length_set] at hj
    by_cases e : j = i
    · subst e
      rw [List.getElem_set_self]
      exact ⟨hu, hst⟩
    · rw [List.getElem_set_ne (fun e2 => e e2.symm)]
      obtain ⟨hu2, hp2⟩ := h.mach j hj
      exact ⟨hu2, (hp2.more (Y := X + 1048576) (by omega)).words t.W t.L hln (hls _ hu2) hst.wa⟩
  · rw [hown, h.left, hmap, isum_set _ _ _ (by simpa using hi)]
    simp only [List.getElem_map]
    have e1 : Mc.own (ms[i].of t) = pOwn ms[i].n t := rfl
    have e2 : Mc.own ms[i] = pOwn ms[i].n (ms[i].ps W L) := rfl
    rw [e1, e2]; omega
  · intro j hj hb
    rw [List.length_set] at hj
    have esum : isum ((ms.set i (ms[i].of t)).map (fun m => m.n + lim)) = isum (ms.map (fun m => m.n + lim)) := by
      rw [hmap, isum_set _ _ _ (by simpa using hi)]
      simp only [List.getElem_map]
      show _ - (ms[i].n + lim) + (ms[i].n + lim) = _
      omega
    rw [esum]
    by_cases e : j = i
    · subst e
      rw [List.getElem_set_self] at hb
      rcases hbad hb with h1 | ⟨h1, h2⟩
      · exact h.poor j hi h1
      · have hle := (leftN_le W av s lim h.lease).1
        have h0 : ms[j].own = 0 := by unfold Mc.own pOwn Mc.ps; simp [h1]
        have hmono := isum_mono ((ms.map (fun m => -(m.n + lim))).set j 0) (ms.map Mc.own) (by simp) (fun k k1 k2 => by
          have hk : k < ms.length := by simpa using k2
          by_cases e : k = j
          · subst e; simp [h0]
          · rw [List.getElem_set_ne (fun e2 => e e2.symm)]
            simp only [List.getElem_map]
            exact Mc.own_low (h.mach k hk).2)
        rw [isum_set _ _ _ (by simpa using hi), isum_neg] at hmono
        simp only [List.getElem_map] at hmono
        have hl := h.left
        have hm1 := hp.m1
        omega
    · rw [List.getElem_set_ne (fun e2 => e e2.symm)] at hb
      exact h.poor j hj hb
/-- how often a machine may yet alter a word -/
def mayN (x : Nat) : Nat := if x ≤ 3 then 2 else if x ≤ 6 then 1 else 0
theorem pNext_may {av le : Nat} {n lim : Int} {t : PS} (h7 : t.next < 7) : ((pNext av le n lim t).W = t.W ∧ mayN (pNext av le n lim t).next ≤ mayN t.next) ∨ mayN (pNext av le n lim t).next + 1 ≤ mayN t.next := by
  obtain ⟨W, L, next, had, saw, extra, bad⟩ := t
  simp only at h7
  have hx : next = 0 ∨ next = 1 ∨ next = 2 ∨ next = 3 ∨ next = 4 ∨ next = 5 ∨ next = 6 := by omega
  rcases hx with rfl | rfl | rfl | rfl | rfl | rfl | rfl
  · by_cases c : n ≤ rd W le <;> simp [pNext, mayN, c]
  · by_cases c : rd W le = had <;> simp [pNext, mayN, c, casW]
  · by_cases c : rd W av < n <;> simp [pNext, mayN, c]
  · by_cases c : rd W av = saw <;> by_cases c2 : extra = 0 <;> simp [pNext, mayN, c, c2, casW]
  · by_cases c : rd W le + extra ≤ lim <;> simp [pNext, mayN, c]
  · by_cases c : rd W le = had <;> simp [pNext, mayN, c, casW]
  · simp [pNext, mayN]
def nsum (l : List Nat) : Nat := l.foldr (· + ·) 0
theorem nsum_set (l : List Nat) (i : Nat) (x : Nat) (h : i < l.length) : nsum (l.set i x) + l[i] = nsum l + x := by
  induction l generalizing i with
  | nil => simp at h
  | cons y l ih =>
    cases i with
    | zero => simp [nsum]; omega
    | succ i =>
      have := ih i (by simpa using h)
      simp [nsum] at this ⊢
      omega
theorem nsum_ge (l : List Nat) (i : Nat) (h : i < l.length) : l[i] ≤ nsum l := by
  have := nsum_set l i 0 h
  omega
theorem nsum_two (l : List Nat) (i j : Nat) (h : i < l.length) (h2 : j < l.length) (hij : i ≠ j) : l[i] + l[j] ≤ nsum l := by
  have h3 := nsum_set l i 0 h
  have h4 := nsum_ge (l.set i 0) j (by simpa using h2)
  rw [List.getElem_set_ne hij] at h4
  omega
/-- how many steps machine i needs yet, whatever the others do meanwhile -/
def psi (av : Nat) (W : List Int) (L : List Acc) (ms : List Mc) (i : Nat) (h : i < ms.length) : Nat :=
  pNeed av (av + 1 + ms[i].u) (ms[i].ps W L) + 5 * (nsum (ms.map (fun m => mayN m.next)) - mayN ms[i].next)
theorem psi_step {av : Nat} {lim : Int} {W : List Int} {L : List Acc} {ms : List Mc} (i : Nat) (hi : i < ms.length) (h7 : ms[i].next < 7) (j : Nat) (hj : j < ms.length) :
    psi av (pNext av (av + 1 + ms[i].u) ms[i].n lim (ms[i].ps W L)).W (pNext av (av + 1 + ms[i].u) ms[i].n lim (ms[i].ps W L)).L (ms.set i (ms[i].of (pNext av (av + 1 + ms[i].u) ms[i].n lim (ms[i].ps W L)))) j (by simpa using hj) + (if j = i then 1 else 0) ≤ psi av W L ms j hj := by
  have hn := pNeed_step (av := av) (le := av + 1 + ms[i].u) (n := ms[i].n) (lim := lim) (t := ms[i].ps W L) h7
  have hm := pNext_may (av := av) (le := av + 1 + ms[i].u) (n := ms[i].n) (lim := lim) (t := ms[i].ps W L) h7
  generalize pNext av (av + 1 + ms[i].u) ms[i].n lim (ms[i].ps W L) = t at *
  have hmap : (ms.set i (ms[i].of t)).map (fun m => mayN m.next) = (ms.map (fun m => mayN m.next)).set i (mayN t.next) := List.map_set
  have hs := nsum_set (ms.map (fun m => mayN m.next)) i (mayN t.next) (by simpa using hi)
  have hg := nsum_ge (ms.map (fun m => mayN m.next)) i (by simpa using hi)
  simp only [List.getElem_map] at hs hg
  unfold psi
  rw [hmap]
  by_cases e : j = i
  · subst e
    simp only [List.getElem_set_self, if_true]
    have e1 : (ms[j].of t).u = ms[j].u := rfl
    have e2 : (ms[j].of t).ps t.W t.L = t := rfl
    have e3 : (ms[j].of t).next = t.next := rfl
    rw [e1, e2, e3]
    have e4 : (ms[j].ps W L).next = ms[j].next := rfl
    rw [e4] at hm
    omega
  · simp only [List.getElem_set_ne (fun e2 => e e2.symm)]
    rw [if_neg e]
    have h2 := nsum_two (ms.map (fun m => mayN m.next)) i j (by simpa using hi) (by simpa using hj) (fun e2 => e e2.symm)
    simp only [List.getElem_map] at h2
    have e4 : (ms[i].ps W L).next = ms[i].next := rfl
    rw [e4] at hm
    have hL : ∀ (W1 : List Int) (L1 L2 : List Acc), pNeed av (av + 1 + ms[j].u) (ms[j].ps W1 L1) = pNeed av (av + 1 + ms[j].u) (ms[j].ps W1 L2) := fun _ _ _ => rfl
    have hw : (ms[i].ps W L).W = W := rfl
    rw [hw] at hm
    rcases hm with ⟨hm, hm2⟩ | hm
    · rw [hm, hL W t.L L]
      omega
    · have ha := pNeed_any (av := av) (le := av + 1 + ms[j].u) t.W (ms[j].ps W L)
      have hb : pNeed av (av + 1 + ms[j].u) (ms[j].ps t.W t.L) ≤ pNeed av (av + 1 + ms[j].u) (ms[j].ps W L) + 5 := ha
      omega
end Go.Proofs.Ytonekdolmbdniaa


namespace Go.Proofs.Ytonekdolmbdniaa
open Go.RowKit
set_option linter.unusedVariables false
set_option linter.unusedSimpArgs false

/-- how often machine k has its turn among the d rounds from round P on -/
def tc (len k P : Nat) : Nat → Nat
  | 0 => 0
  | d + 1 => tc len k P d + (if (P + d) % len = k then 1 else 0)
theorem tc_shift (len k P : Nat) (d : Nat) : tc len k P (d + 1) = (if P % len = k then 1 else 0) + tc len k (P + 1) d := by
  induction d with
  | zero => simp [tc]
  | succ d ih =>
    rw [tc, ih, tc, show P + (d + 1) = P + 1 + d from by omega]
    omega
theorem tc_zero (len k : Nat) (d : Nat) (hd : d ≤ len) : tc len k 0 d = if k < d then 1 else 0 := by
  induction d with
  | zero => simp [tc]
  | succ d ih =>
    rw [tc, ih (by omega), Nat.zero_add, Nat.mod_eq_of_lt (by omega)]
    by_cases h : d = k
    · subst h; simp
    · by_cases h2 : k < d
      · rw [if_pos h2, if_neg h, if_pos (by omega)]
      · rw [if_neg h2, if_neg h, if_neg (by omega)]
theorem tc_len (len k : Nat) (hk : k < len) (P : Nat) : tc len k P len = 1 := by
  induction P with
  | zero => rw [tc_zero len k len (Nat.le_refl _), if_pos hk]
  | succ P ih =>
    have h1 := tc_shift len k P len
    rw [tc, ih] at h1
    rw [Nat.add_mod_right] at h1
    omega
theorem tc_add (len k P d e : Nat) : tc len k P (d + e) = tc len k P d + tc len k (P + d) e := by
  induction e with
  | zero => rfl
  | succ e ih => rw [← Nat.add_assoc, tc, ih, tc, Nat.add_assoc P d e]; omega
theorem tc_rounds (len k : Nat) (hk : k < len) (P q : Nat) : tc len k P (q * len) = q := by
  induction q with
  | zero => simp [tc]
  | succ q ih => rw [Nat.succ_mul, tc_add, ih, tc_len len k hk]
theorem psi_le {av : Nat} {W : List Int} {L : List Acc} {ms : List Mc} (i : Nat) (hi : i < ms.length) : psi av W L ms i hi ≤ 6 + 10 * ms.length := by
  have h1 : nsum (ms.map (fun m => mayN m.next)) ≤ 2 * ms.length := by
    clear hi
    induction ms with
    | nil => simp [nsum]
    | cons m ms ih =>
      have : mayN m.next ≤ 2 := by unfold mayN; split <;> (try split) <;> omega
      simp [nsum] at ih ⊢
      omega
  have h2 : pNeed av (av + 1 + ms[i].u) (ms[i].ps W L) ≤ 6 := by
    unfold pNeed
    repeat' split
    all_goals omega
  unfold psi
  omega
theorem psi_over {av : Nat} {W : List Int} {L : List Acc} {ms : List Mc} (i : Nat) (hi : i < ms.length) (h : ms[i].next ≤ 7) (h0 : psi av W L ms i hi = 0) : ms[i].next = 7 := by
  unfold psi at h0
  exact pNeed_zero (av := av) (le := av + 1 + ms[i].u) (t := ms[i].ps W L) h (by omega)
end Go.Proofs.Ytonekdolmbdniaa


namespace Go.Proofs.Ytonekdolmbdniaa
open Go.RowKit
set_option linter.unusedVariables false
set_option linter.unusedSimpArgs false

/-- one machine of many -/
structure Sc where
  kd : Nat
  n : Int
  st : Nat
  saw : Int
  bad : Bool
def Sc.ss (m : Sc) (W : List Int) (L : List Acc) : SS := ⟨W, L, m.st, m.saw, m.bad⟩
def Sc.of (m : Sc) (t : SS) : Sc := ⟨m.kd, m.n, t.st, t.saw, t.bad⟩
def Sc.f (m : Sc) (li av : Nat) : Nat := if m.kd = 2 then av else li
def Sc.g (m : Sc) (li av : Nat) : Nat := if m.kd = 2 then li else av
/-- what its accesses added to the limit, and to what is available -/
def Sc.oLi (m : Sc) : Int := if m.kd = 2 then ownG m.kd m.n (m.ss [] []) else ownF m.kd m.n (m.ss [] [])
def Sc.oAv (m : Sc) : Int := if m.kd = 2 then ownF m.kd m.n (m.ss [] []) else ownG m.kd m.n (m.ss [] [])

theorem sWord_step {kd f g : Nat} {n X : Int} {t : SS} (h : SInv kd f g n X t) (h7 : t.st < 3) :
    rd (sNext kd f g n t).W f = rd t.W f + (ownF kd n (sNext kd f g n t) - ownF kd n t) ∧ rd (sNext kd f g n t).W g = rd t.W g + (ownG kd n (sNext kd f g n t) - ownG kd n t) ∧ ∀ j, j ≠ f → j ≠ g → rd (sNext kd f g n t).W j = rd t.W j := by
  obtain ⟨W, L, st, saw, bad⟩ := t
  obtain ⟨lf, lg, ne, k2, n1, wf, wg, sw, nx, k0, b⟩ := h
  simp only at *
  obtain rfl : bad = false := by
    cases bad with
    | false => rfl
    | true => have := b rfl; omega
  have hx : st = 0 ∨ st = 1 ∨ st = 2 := by omega
  rcases hx with rfl | rfl | rfl
  · have hk : kd ≠ 0 := fun e => by have := k0 e; omega
    cases c : sRef kd n (rd W f) <;> simp [sNext, ownF, ownG, c]
  · have hk : kd ≠ 0 := fun e => by have := k0 e; omega
    generalize hby : sBy kd n = by_ at *
    by_cases c : rd W f = saw
    · refine ⟨?_, ?_, ?_⟩
      · simp [sNext, ownF, ownG, c, hby, hk, rd_casW, lf]
      · simp [sNext, ownF, ownG, c, hby, hk, rd_casW, Ne.symm ne]
      · intro j h1 h2; simp [sNext, c, hby, rd_casW, h1]
    · refine ⟨?_, ?_, ?_⟩
      · simp [sNext, ownF, ownG, c, hby, hk, rd_casW]
      · simp [sNext, ownF, ownG, c, hby, hk, rd_casW]
      · intro j h1 h2; simp [sNext, c, hby, rd_casW]
  · generalize hby : sBy kd n = by_ at *
    refine ⟨?_, ?_, ?_⟩
    · simp [sNext, ownF, hby, rd_set, ne]
    · simp [sNext, ownG, hby, rd_set, lg]
    · intro j h1 h2; simp [sNext, hby, rd_set, h2]
theorem SInv.words {kd f g : Nat} {n X : Int} {t : SS} (h : SInv kd f g n X t) (W' : List Int) (L' : List Acc) (hl : W'.length = t.W.length) (h1 : -X ≤ rd W' f ∧ rd W' f ≤ X) (h2 : -X ≤ rd W' g ∧ rd W' g ≤ X) : SInv kd f g n X { t with W := W', L := L' } :=
  ⟨by rw [hl]; exact h.lf, by rw [hl]; exact h.lg, h.ne, h.k2, h.n1, h1, h2, h.sw, h.nx, h.k0, h.b⟩

/-- what holds of a pool whose limit many machines move -/
structure TI (li av : Nat) (X : Int) (W0 W : List Int) (L : List Acc) (ms : List Sc) : Prop where
  len : W.length = W0.length
  mach : ∀ i (h : i < ms.length), (ms[i].kd = 1 ∨ ms[i].kd = 2) ∧ SInv ms[i].kd (ms[i].f li av) (ms[i].g li av) ms[i].n X (ms[i].ss W L)
  wli : -X ≤ rd W li ∧ rd W li ≤ X
  wav : -X ≤ rd W av ∧ rd W av ≤ X
  sli : rd W li = rd W0 li + isum (ms.map Sc.oLi)
  sav : rd W av = rd W0 av + isum (ms.map Sc.oAv)
theorem TI.step {li av : Nat} {X : Int} {W0 W : List Int} {L : List Acc} {ms : List Sc} (h : TI li av X W0 W L ms) (hX : 0 ≤ X) (i : Nat) (hi : i < ms.length) (h7 : ms[i].st < 3) :
    TI li av (X + 1048576) W0 (sNext ms[i].kd (ms[i].f li av) (ms[i].g li av) ms[i].n (ms[i].ss W L)).W (sNext ms[i].kd (ms[i].f li av) (ms[i].g li av) ms[i].n (ms[i].ss W L)).L (ms.set i (ms[i].of (sNext ms[i].kd (ms[i].f li av) (ms[i].g li av) ms[i].n (ms[i].ss W L)))) := by
  obtain ⟨hk, hp⟩ := h.mach i hi
  have hst := hp.step hX
  have hln : (sNext ms[i].kd (ms[i].f li av) (ms[i].g li av) ms[i].n (ms[i].ss W L)).W.length = W.length := sNext_len _
  obtain ⟨hw1, hw2, hw3⟩ := sWord_step hp h7
  have hwb : (-(X + 1048576) ≤ rd (sNext ms[i].kd (ms[i].f li av) (ms[i].g li av) ms[i].n (ms[i].ss W L)).W li ∧ rd (sNext ms[i].kd (ms[i].f li av) (ms[i].g li av) ms[i].n (ms[i].ss W L)).W li ≤ X + 1048576) ∧
      (-(X + 1048576) ≤ rd (sNext ms[i].kd (ms[i].f li av) (ms[i].g li av) ms[i].n (ms[i].ss W L)).W av ∧ rd (sNext ms[i].kd (ms[i].f li av) (ms[i].g li av) ms[i].n (ms[i].ss W L)).W av ≤ X + 1048576) := by
    have a1 := hst.wf
    have a2 := hst.wg
    rcases hk with e | e
    · simp only [Sc.f, Sc.g, e] at a1 a2 ⊢; exact ⟨a1, a2⟩
    · simp only [Sc.f, Sc.g, e] at a1 a2 ⊢; exact ⟨a2, a1⟩
  have hso : rd (sNext ms[i].kd (ms[i].f li av) (ms[i].g li av) ms[i].n (ms[i].ss W L)).W li = rd W li + ((ms[i].of (sNext ms[i].kd (ms[i].f li av) (ms[i].g li av) ms[i].n (ms[i].ss W L))).oLi - ms[i].oLi) ∧
      rd (sNext ms[i].kd (ms[i].f li av) (ms[i].g li av) ms[i].n (ms[i].ss W L)).W av = rd W av + ((ms[i].of (sNext ms[i].kd (ms[i].f li av) (ms[i].g li av) ms[i].n (ms[i].ss W L))).oAv - ms[i].oAv) := by
    have b1 : ∀ t : SS, ownF ms[i].kd ms[i].n ((ms[i].of t).ss [] []) = ownF ms[i].kd ms[i].n t := fun t => rfl
    have b2 : ∀ t : SS, ownG ms[i].kd ms[i].n ((ms[i].of t).ss [] []) = ownG ms[i].kd ms[i].n t := fun t => rfl
    have b3 : ownF ms[i].kd ms[i].n (ms[i].ss W L) = ownF ms[i].kd ms[i].n (ms[i].ss [] []) := rfl
    have b4 : ownG ms[i].kd ms[i].n (ms[i].ss W L) = ownG ms[i].kd ms[i].n (ms[i].ss [] []) := rfl
    have b5 : ∀ t : SS, (ms[i].of t).kd = ms[i].kd ∧ (ms[i].of t).n = ms[i].n := fun t => ⟨rfl, rfl⟩
    unfold Sc.oLi Sc.oAv
    simp only [b1, b2, (b5 _).1, (b5 _).2]
    rw [b3] at hw1
    rw [b4] at hw2
    rcases hk with e | e
    · rw [if_neg (by omega), if_neg (by omega), if_neg (by omega), if_neg (by omega)]
      have e1 : ms[i].f li av = li := by simp [Sc.f, e]
      have e2 : ms[i].g li av = av := by simp [Sc.g, e]
      rw [e1, e2] at hw1 hw2 ⊢
      exact ⟨hw1, hw2⟩
    · rw [if_pos e, if_pos e, if_pos e, if_pos e]
      have e1 : ms[i].f li av = av := by simp [Sc.f, e]
      have e2 : ms[i].g li av = li := by simp [Sc.g, e]
      rw [e1, e2] at hw1 hw2 ⊢
      exact ⟨hw2, hw1⟩
  generalize sNext ms[i].kd (ms[i].f li av) (ms[i].g li av) ms[i].n (ms[i].ss W L) = t at *
  have hmap : ∀ f : Sc → Int, (ms.set i (ms[i].of t)).map f = (ms.map f).set i (f (ms[i].of t)) := fun f => List.map_set
  refine ⟨hln.trans h.len, ?_, hwb.1, hwb.2, ?_, ?_⟩
  · intro j hj
    rw [List.length_set] at hj
    by_cases e : j = i
    · subst e
      rw [List.getElem_set_self]
      exact ⟨hk, hst⟩
    · rw [List.getElem_set_ne (fun e2 => e e2.symm)]
      obtain ⟨hk2, hp2⟩ := h.mach j hj
      refine ⟨hk2, (hp2.more (Y := X + 1048576) (by omega)).words t.W t.L hln ?_ ?_⟩
      · unfold Sc.f; split
        · exact hwb.2
        · exact hwb.1
      · unfold Sc.g; split
        · exact hwb.1
        · exact hwb.2
  · rw [hso.1, h.sli, hmap, isum_set _ _ _ (by simpa using hi)]
    simp only [List.getElem_map]
    omega
  · rw [hso.2, h.sav, hmap, isum_set _ _ _ (by simpa using hi)]
    simp only [List.getElem_map]
    omega
/-- how often a machine may yet alter a word -/
def mayS (x : Nat) : Nat := if x ≤ 1 then 2 else if x ≤ 2 then 1 else 0
theorem sNext_may {kd f g : Nat} {n : Int} {t : SS} (h7 : t.st < 3) : ((sNext kd f g n t).W = t.W ∧ mayS (sNext kd f g n t).st ≤ mayS t.st) ∨ mayS (sNext kd f g n t).st + 1 ≤ mayS t.st := by
  obtain ⟨W, L, st, saw, bad⟩ := t
  simp only at h7
  have hx : st = 0 ∨ st = 1 ∨ st = 2 := by omega
  rcases hx with rfl | rfl | rfl
  · cases c : sRef kd n (rd W f) <;> simp [sNext, mayS, c]
  · by_cases c : rd W f = saw <;> simp [sNext, mayS, c, casW]
  · simp [sNext, mayS]
/-- how many steps machine i needs yet, whatever the others do meanwhile -/
def psiS (li av : Nat) (W : List Int) (L : List Acc) (ms : List Sc) (i : Nat) (h : i < ms.length) : Nat :=
  sNeed (ms[i].f li av) (ms[i].ss W L) + 2 * (nsum (ms.map (fun m => mayS m.st)) - mayS ms[i].st)
theorem psiS_step {li av : Nat} {W : List Int} {L : List Acc} {ms : List Sc} (i : Nat) (hi : i < ms.length) (h7 : ms[i].st < 3) (j : Nat) (hj : j < ms.length) :
    psiS li av (sNext ms[i].kd (ms[i].f li av) (ms[i].g li av) ms[i].n (ms[i].ss W L)).W (sNext ms[i].kd (ms[i].f li av) (ms[i].g li av) ms[i].n (ms[i].ss W L)).L (ms.set i (ms[i].of (sNext ms[i].kd (ms[i].f li av) (ms[i].g li av) ms[i].n (ms[i].ss W L)))) j (by simpa using hj) + (if j = i then 1 else 0) ≤ psiS li av W L ms j hj := by
  have hn := sNeed_step (kd := ms[i].kd) (f := ms[i].f li av) (g := ms[i].g li av) (n := ms[i].n) (t := ms[i].ss W L) h7
  have hm := sNext_may (kd := ms[i].kd) (f := ms[i].f li av) (g := ms[i].g li av) (n := ms[i].n) (t := ms[i].ss W L) h7
  generalize sNext ms[i].kd (ms[i].f li av) (ms[i].g li av) ms[i].n (ms[i].ss W L) = t at *
  have hmap : (ms.set i (ms[i].of t)).map (fun m => mayS m.st) = (ms.map (fun m => mayS m.st)).set i (mayS t.st) := List.map_set
  have hs := nsum_set (ms.map (fun m => mayS m.st)) i (mayS t.st) (by simpa using hi)
  have hg := nsum_ge (ms.map (fun m => mayS m.st)) i (by simpa using hi)
  simp only [List.getElem_map] at hs hg
  unfold psiS
  rw [hmap]
  have e4 : (ms[i].ss W L).st = ms[i].st := rfl
  have hw : (ms[i].ss W L).W = W := rfl
  rw [e4] at hm
  rw [hw] at hm
  by_cases e : j = i
  · subst e
    simp only [List.getElem_set_self, if_true]
    have e1 : (ms[j].of t).f li av = ms[j].f li av := rfl
    have e2 : (ms[j].of t).ss t.W t.L = t := rfl
    have e3 : (ms[j].of t).st = t.st := rfl
    rw [e1, e2, e3]
    omega
  · simp only [List.getElem_set_ne (fun e2 => e e2.symm)]
    rw [if_neg e]
    have h2 := nsum_two (ms.map (fun m => mayS m.st)) i j (by simpa using hi) (by simpa using hj) (fun e2 => e e2.symm)
    simp only [List.getElem_map] at h2
    have hL : ∀ (W1 : List Int) (L1 L2 : List Acc), sNeed (ms[j].f li av) (ms[j].ss W1 L1) = sNeed (ms[j].f li av) (ms[j].ss W1 L2) := fun _ _ _ => rfl
    rcases hm with ⟨hm, hm2⟩ | hm
    · rw [hm, hL W t.L L]
      omega
    · have ha := sNeed_any (f := ms[j].f li av) t.W (ms[j].ss W L)
      have hb : sNeed (ms[j].f li av) (ms[j].ss t.W t.L) ≤ sNeed (ms[j].f li av) (ms[j].ss W L) + 2 := ha
      omega
theorem psiS_le {li av : Nat} {W : List Int} {L : List Acc} {ms : List Sc} (i : Nat) (hi : i < ms.length) : psiS li av W L ms i hi ≤ 6 + 10 * ms.length := by
  have h1 : nsum (ms.map (fun m => mayS m.st)) ≤ 2 * ms.length := by
    clear hi
    induction ms with
    | nil => simp [nsum]
    | cons m ms ih =>
      have : mayS m.st ≤ 2 := by unfold mayS; split <;> (try split) <;> omega
      simp [nsum] at ih ⊢
      omega
  have h2 : sNeed (ms[i].f li av) (ms[i].ss W L) ≤ 4 := by
    unfold sNeed
    repeat' split
    all_goals omega
  unfold psiS
  omega
theorem psiS_over {li av : Nat} {W : List Int} {L : List Acc} {ms : List Sc} (i : Nat) (hi : i < ms.length) (h : ms[i].st ≤ 3) (h0 : psiS li av W L ms i hi = 0) : ms[i].st = 3 := by
  unfold psiS at h0
  exact sNeed_zero (f := ms[i].f li av) (t := ms[i].ss W L) h (by omega)
/-- how far the machines are -/
def ProgS (li av P i : Nat) (W : List Int) (L : List Acc) (ms : List Sc) : Prop :=
  ∀ j (h : j < ms.length), P ≤ i → ms[j].st = 3 ∨ psiS li av W L ms j h + tc ms.length j P (i - P) ≤ 6 + 10 * ms.length
theorem ProgS.start {li av P : Nat} {W : List Int} {L : List Acc} {ms : List Sc} : ProgS li av P 0 W L ms := by
  intro j hj hP
  right
  have := psiS_le (li := li) (av := av) (W := W) (L := L) j hj
  simp [tc]; omega
theorem ProgS.stay {li av P i : Nat} {W : List Int} {L : List Acc} {ms : List Sc} (h : ProgS li av P i W L ms) (k : Nat) (hk : k < ms.length) (h7 : ms[k].st = 3) (hik : P ≤ i → i % ms.length = k) : ProgS li av P (i + 1) W L ms := by
  intro j hj hP
  by_cases e : P ≤ i
  · rcases h j hj e with h1 | h1
    · exact Or.inl h1
    · by_cases ej : j = k
      · subst ej; exact Or.inl h7
      · right
        rw [show i + 1 - P = (i - P) + 1 from by omega, tc, show P + (i - P) = i from by omega, hik e, if_neg (fun e2 => ej e2.symm)]
        omega
  · right
    have : i + 1 - P = 0 := by omega
    rw [this]
    have := psiS_le (li := li) (av := av) (W := W) (L := L) j hj
    simp [tc]; omega
theorem ProgS.step {li av P i : Nat} {W : List Int} {L : List Acc} {ms : List Sc} (h : ProgS li av P i W L ms) (k : Nat) (hk : k < ms.length) (h7 : ms[k].st < 3) (hik : P ≤ i → i % ms.length = k) :
    ProgS li av P (i + 1) (sNext ms[k].kd (ms[k].f li av) (ms[k].g li av) ms[k].n (ms[k].ss W L)).W (sNext ms[k].kd (ms[k].f li av) (ms[k].g li av) ms[k].n (ms[k].ss W L)).L (ms.set k (ms[k].of (sNext ms[k].kd (ms[k].f li av) (ms[k].g li av) ms[k].n (ms[k].ss W L)))) := by
  intro j hj hP
  have hj' : j < ms.length := by simpa using hj
  have hps := psiS_step (li := li) (av := av) (W := W) (L := L) k hk h7 j hj'
  have hbd := psiS_le (li := li) (av := av) (W := (sNext ms[k].kd (ms[k].f li av) (ms[k].g li av) ms[k].n (ms[k].ss W L)).W) (L := (sNext ms[k].kd (ms[k].f li av) (ms[k].g li av) ms[k].n (ms[k].ss W L)).L) j hj
  rw [List.length_set] at hbd ⊢
  by_cases e : P ≤ i
  · rcases h j hj' e with h1 | h1
    · by_cases ej : j = k
      · subst ej; omega
      · left; rw [List.getElem_set_ne (fun e2 => ej e2.symm)]; exact h1
    · right
      rw [show i + 1 - P = (i - P) + 1 from by omega, tc, show P + (i - P) = i from by omega, hik e]
      by_cases ej : j = k
      · subst ej
        rw [if_pos rfl] at hps ⊢
        omega
      · rw [if_neg ej] at hps
        rw [if_neg (fun e2 => ej e2.symm)]
        omega
  · right
    have : i + 1 - P = 0 := by omega
    rw [this]
    simp [tc]; omega
theorem ProgS.done {li av P : Nat} {W : List Int} {L : List Acc} {ms : List Sc} (h : ProgS li av P (P + 40 * ms.length * ms.length) W L ms) (j : Nat) (hj : j < ms.length) (h7 : ms[j].st ≤ 3) : ms[j].st = 3 := by
  rcases h j hj (by omega) with h1 | h1
  · exact h1
  · rw [show P + 40 * ms.length * ms.length - P = 40 * ms.length * ms.length from by omega, tc_rounds _ _ hj] at h1
    omega
end Go.Proofs.Ytonekdolmbdniaa


namespace Go.Proofs.Ytonekdolmbdniaa
open Go.RowKit
set_option linter.unusedVariables false
set_option linter.unusedSimpArgs false
set_option maxRecDepth 100000

/-- the machines' blocks, and those of their functions -/
structure SRow (w : World) (li av : Nat) (nd : Int) (xs ys : List Nat) (ms : List Sc) : Prop where
  len : xs.length = ms.length
  lny : ys.length = ms.length
  blk : ∀ i (h : i < ms.length) (h2 : i < xs.length) (h3 : i < ys.length), Blk w xs[i] 85 (scs ms[i].kd li av nd ms[i].n ys[i] (ms[i].ss [] [])) ∧ Blk w ys[i] 90 (shfs ms[i].kd)
  inj : ∀ i j (h : i < xs.length) (h2 : j < xs.length), xs[i] = xs[j] → i = j
theorem SRow.keep {S : Nat → Prop} {w w' : World} {li av : Nat} {nd : Int} {xs ys : List Nat} {ms : List Sc} (h : SRow w li av nd xs ys ms) (hk : Keep S w w') (hS : ∀ i (h : i < xs.length), ¬ S xs[i]) (hS2 : ∀ i (h : i < ys.length), ¬ S ys[i]) : SRow w' li av nd xs ys ms :=
  ⟨h.len, h.lny, fun i h1 h2 h3 => ⟨hk.blk (h.blk i h1 h2 h3).1 (hS i h2), hk.blk (h.blk i h1 h2 h3).2 (hS2 i h3)⟩, h.inj⟩
theorem getElem_snoc_lt {α : Type} {l : List α} {x : α} {i : Nat} (h : i < l.length) (h2 : i < (l ++ [x]).length) : (l ++ [x])[i] = l[i] := List.getElem_append_left h
theorem getElem_snoc_eq {α : Type} {l : List α} {x : α} {i : Nat} (h : i = l.length) (h2 : i < (l ++ [x]).length) : (l ++ [x])[i] = x := by subst h; simp
theorem SRow.snoc {w w' : World} {li av kd : Nat} {nd n : Int} {xs ys : List Nat} {ms : List Sc} {x y : Nat} (h : SRow w li av nd xs ys ms) (hk : Keep0 w w') (hb : Blk w' x 85 (scs kd li av nd n y (SS.mk [] [] 0 0 false))) (hb2 : Blk w' y 90 (shfs kd)) (hx : w.heap.size ≤ x) : SRow w' li av nd (xs ++ [x]) (ys ++ [y]) (ms ++ [⟨kd, n, 0, 0, false⟩]) := by
  have hl := h.len
  have hl2 := h.lny
  have hlt : ∀ i (h2 : i < xs.length), xs[i] < w.heap.size := fun i h2 => (h.blk i (by omega) h2 (by omega)).1.lt
  refine ⟨by simp [hl], by simp [hl2], ?_, ?_⟩
  · intro i h1 h2 h3
    by_cases e : i < xs.length
    · have e2 : i < ms.length := by omega
      have e3 : i < ys.length := by omega
      rw [getElem_snoc_lt e, getElem_snoc_lt e2, getElem_snoc_lt e3]
      exact ⟨hk.blk (h.blk i e2 e e3).1 (fun h => h), hk.blk (h.blk i e2 e e3).2 (fun h => h)⟩
    · have e3 : i = xs.length := by simp at h2; omega
      rw [getElem_snoc_eq e3, getElem_snoc_eq (show i = ys.length by omega), getElem_snoc_eq (show i = ms.length by omega)]
      exact ⟨hb, hb2⟩
  · intro i j h1 h2 he
    simp only [List.length_append, List.length_singleton] at h1 h2
    by_cases e : i < xs.length
    · by_cases e2 : j < xs.length
      · rw [getElem_snoc_lt e, getElem_snoc_lt e2] at he
        exact h.inj i j e e2 he
      · rw [getElem_snoc_lt e, getElem_snoc_eq (show j = xs.length by omega)] at he
        have := hlt i e
        omega
    · by_cases e2 : j < xs.length
      · rw [getElem_snoc_lt e2, getElem_snoc_eq (show i = xs.length by omega)] at he
        have := hlt j e2
        omega
      · omega

/-- all that stands behind i turns -/
structure SM (B m a ob li av : Nat) (nd X : Int) (xs ys : List Nat) (W0 : List Int) (lv0 : Value) (N : Nat) (i : Nat) (w : World) (W : List Int) (L : List Acc) (ms : List Sc) (os : List Value) : Prop where
  mem : ∃ lv, MemAt B w m a lv W L ∧ (∀ k, lv.ownBlock = some k → lv0.ownBlock = some k ∨ N ≤ k)
  ti : TI li av (X + 1048576 * i) W0 W L ms
  row : SRow w li av nd xs ys ms
  ovr : Blk w ob 4 os
  cnt : L.length ≤ i
  size : N ≤ w.heap.size
section
variable {B m a ob li av : Nat} {nd X : Int} {xs ys : List Nat} {W0 : List Int} {lv0 : Value} {N i : Nat} {w : World} {W : List Int} {L : List Acc} {ms : List Sc} {os : List Value}
theorem SM.more (h : SM B m a ob li av nd X xs ys W0 lv0 N i w W L ms os) : SM B m a ob li av nd X xs ys W0 lv0 N (i + 1) w W L ms os := by
  obtain ⟨h1, h3, h4, h5, h6, h9⟩ := h
  exact ⟨h1, ⟨h3.len, fun j hj => ⟨(h3.mach j hj).1, (h3.mach j hj).2.more (by omega)⟩, by have := h3.wli; omega, by have := h3.wav; omega, h3.sli, h3.sav⟩, h4, h5, by omega, h9⟩
theorem SM.set (h : SM B m a ob li av nd X xs ys W0 lv0 N i w W L ms os) (k : Nat) (b : Bool) : SM B m a ob li av nd X xs ys W0 lv0 N i (w.setCell ⟨ob, k, none⟩ (.bool b)) W L ms (os.set k (.bool b)) := by
  have hk : Keep (fun j => j = ob) w (w.setCell ⟨ob, k, none⟩ (.bool b)) := (Keep.refl _ _).set _ _ (fun _ => rfl)
  obtain ⟨⟨lv, h1, h2⟩, h3, h4, h5, h6, h9⟩ := h
  have hom : ob ≠ m := h5.ne h1.mem (by decide)
  have hoa : ob ≠ a := h5.ne h1.words (by decide)
  have hl := h4.len
  have hl2 := h4.lny
  refine ⟨⟨lv, h1.keep hk ?_, h2⟩, h3, h4.keep hk (fun j hj e => (h4.blk j (by omega) hj (by omega)).1.ne h5 (by decide) e) (fun j hj e => (h4.blk j (by omega) (by omega) hj).2.ne h5 (by decide) e), h5.set k _, h6, Nat.le_trans h9 hk.size⟩
  rintro j (h | h | h) e
  · exact hom ((show j = ob from e).symm.trans h)
  · exact hoa ((show j = ob from e).symm.trans h)
  · exact ownBlock_ne h1.log h5 (by decide) (by rw [h]; exact congrArg some (show j = ob from e).symm)
theorem SM.step (h : SM B m a ob li av nd X xs ys W0 lv0 N i w W L ms os) (k : Nat) (hk : k < ms.length) (hk2 : k < xs.length) (h7 : ms[k].st < 3) (hi : i ≤ 10000) (hX : 0 ≤ X ∧ X ≤ 1099511627776) :
    Calls Try.prog 23 #[ptr xs[k], ptr m] w fun e w' => e = .returned (.bool (decide ((sNext ms[k].kd (ms[k].f li av) (ms[k].g li av) ms[k].n (ms[k].ss W L)).st = 3))) ∧
      SM B m a ob li av nd X xs ys W0 lv0 N (i + 1) w' (sNext ms[k].kd (ms[k].f li av) (ms[k].g li av) ms[k].n (ms[k].ss W L)).W (sNext ms[k].kd (ms[k].f li av) (ms[k].g li av) ms[k].n (ms[k].ss W L)).L (ms.set k (ms[k].of (sNext ms[k].kd (ms[k].f li av) (ms[k].g li av) ms[k].n (ms[k].ss W L)))) os ∧
      Keep (fun b => (b = m ∨ b = a ∨ b ∈ xs ∨ lv0.ownBlock = some b) ∨ N ≤ b) w w' := by
  obtain ⟨⟨lv, h1, h2⟩, h3, h4, h5, h6, h9⟩ := h
  obtain ⟨hu, hp⟩ := h3.mach k hk
  have hti := h3.step (by omega) k hk h7
  have hl := h4.len
  have hl2 := h4.lny
  have hk3 : k < ys.length := by omega
  obtain ⟨hb, hb2⟩ := h4.blk k hk hk2 hk3
  have hlog := sNext_log (kd := ms[k].kd) (f := ms[k].f li av) (g := ms[k].g li av) (n := ms[k].n) (ms[k].ss W L) h7
  refine (shift_Step (ms[k].ss W L) h1 hb hb2 hp (by omega) (by show L.length ≤ _; omega)).mono ?_
  rintro e w' ⟨rfl, lv', hm', hx', hk', ho', ht'⟩
  have hm2 : MemAt B w' m a lv' (sNext ms[k].kd (ms[k].f li av) (ms[k].g li av) ms[k].n (ms[k].ss W L)).W (sNext ms[k].kd (ms[k].f li av) (ms[k].g li av) ms[k].n (ms[k].ss W L)).L := hm'
  have hx2 : Blk w' xs[k] 85 (scs ms[k].kd li av nd ms[k].n ys[k] (sNext ms[k].kd (ms[k].f li av) (ms[k].g li av) ms[k].n (ms[k].ss W L))) := hx'
  refine ⟨rfl, ?_, hk'.mono ?_⟩
  · generalize sNext ms[k].kd (ms[k].f li av) (ms[k].g li av) ms[k].n (ms[k].ss W L) = t at *
    refine ⟨⟨lv', hm2, ?_⟩, ?_, ?_, hk'.blk h5 ?_, ?_, Nat.le_trans h9 hk'.size⟩
    · intro b hb
      rcases ho' b hb with h | h
      · exact h2 b h
      · exact Or.inr (Nat.le_trans h9 h)
    · rw [show X + 1048576 * ((i + 1 : Nat) : Int) = X + 1048576 * (i : Int) + 1048576 from by omega]
      exact hti
    · refine ⟨by rw [List.length_set]; exact hl, by rw [List.length_set]; exact hl2, ?_, h4.inj⟩
      intro j hj hj2 hj3
      rw [List.length_set] at hj
      by_cases e : j = k
      · subst e
        rw [List.getElem_set_self]
        exact ⟨hx2, ht'⟩
      · rw [List.getElem_set_ne (fun e2 => e e2.symm)]
        obtain ⟨c1, c2⟩ := h4.blk j hj hj2 hj3
        refine ⟨hk'.blk c1 ?_, hk'.blk c2 ?_⟩
        · rintro (h | h)
          · exact sm_far h1 c1 h
          · exact e (h4.inj j k hj2 hk2 h)
        · rintro (h | h)
          · exact ss_far h1 c2 h
          · exact c2.ne hb (by decide) h
    · rintro (h | h)
      · rcases h with h | h | h
        · exact h5.ne h1.mem (by decide) h
        · exact h5.ne h1.words (by decide) h
        · exact ownBlock_ne h1.log h5 (by decide) h.symm
      · exact h5.ne hb (by decide) h
    · rw [show (ms[k].ss W L).L.length = L.length from rfl] at hlog; omega
  · rintro b ((h | h | h) | h)
    · exact Or.inl (Or.inl h)
    · exact Or.inl (Or.inr (Or.inl h))
    · rcases h2 b h with h | h
      · exact Or.inl (Or.inr (Or.inr (Or.inr h)))
      · exact Or.inr h
    · exact Or.inl (Or.inr (Or.inr (Or.inl (h ▸ List.getElem_mem hk2))))
end
end Go.Proofs.Ytonekdolmbdniaa
