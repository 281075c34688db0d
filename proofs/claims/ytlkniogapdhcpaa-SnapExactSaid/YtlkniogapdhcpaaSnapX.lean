/- SnapExact, in plain Lean: a count beside machines that add; what a try loaded, when it is exact, was the counter's sum at a step at which all that was begun was done. -/
import Derived.Test.YtlkniogapdhcpaaSnapE
import Derived.Test.YtlkniogapdhcpaaSnapM
import Derived.Test.YtlkniogapdhcpaaAddM
import Derived.Test.YtlkniogapdhcpaaRefSevenZ
namespace Go.Proofs.Ytlkniogapdhcpaa
open Go.RowKit
set_option linter.unusedVariables false
set_option linter.unusedSimpArgs false
/-- a word's version -/
def pV (n : Int) : Int := n % 18446744073709551616 / 4294967296
theorem pV_next (n v : Int) : pV (pNext6 n v) = (pV n + 1) % 4294967296 := by
  unfold pV pNext6 wrap64
  omega
/-- a stripe's word y, at most n changes behind x -/
def Ev (n : Nat) (x y : Int) : Prop := ∃ k : Nat, k ≤ n ∧ pV y = (pV x + k) % 4294967296 ∧ (k = 0 → y = x)
theorem pV_bd (n : Int) : 0 ≤ pV n ∧ pV n < 4294967296 := by unfold pV; omega
theorem Ev.refl (n : Nat) (x : Int) : Ev n x x := ⟨0, Nat.zero_le _, by have := pV_bd x; omega, fun _ => rfl⟩
theorem Ev.mono {n m : Nat} {x y : Int} (h : Ev n x y) (hm : n ≤ m) : Ev m x y := by
  obtain ⟨k, h1, h2, h3⟩ := h
  exact ⟨k, by omega, h2, h3⟩
theorem Ev.trans {n m : Nat} {x y z : Int} (h : Ev n x y) (h' : Ev m y z) : Ev (n + m) x z := by
  obtain ⟨k, h1, h2, h3⟩ := h
  obtain ⟨j, g1, g2, g3⟩ := h'
  refine ⟨k + j, by omega, by rw [g2, h2]; omega, fun e => ?_⟩
  rw [g3 (by omega), h3 (by omega)]
theorem Ev.back {n m : Nat} {x y : Int} (h : Ev n x y) (h' : Ev m y x) (hn : n + m < 4294967296) : y = x := by
  obtain ⟨k, h1, h2, h3⟩ := h
  obtain ⟨j, g1, g2, g3⟩ := h'
  have := pV_bd x
  have := pV_bd y
  exact h3 (by omega)
theorem Ev.next (x v : Int) : Ev 1 x (pNext6 x v) := ⟨1, Nat.le_refl _, by rw [pV_next]; simp, fun h => by cases h⟩
section
variable {b s : Nat} {g d : Int}
theorem casW_ev (W : List Int) (i j : Nat) (v : Int) (w : Int) : Ev 1 (rd W j) (rd (casW W i w (pNext6 w v)) j) := by
  by_cases hq : rd W i = w
  · rw [casW_eq hq, rd_set]
    split
    · rename_i e
      obtain ⟨rfl, _⟩ := e
      rw [hq]
      exact Ev.next _ _
    · exact Ev.refl _ _
  · rw [casW_ne hq]
    exact Ev.refl _ _
theorem aNext_ev {t : AS} (h : AInv b s g d t) {i : Nat} (hi : i < s) : Ev 1 (rd t.W (b + 4 + i)) (rd (aNext b s g d t).W (b + 4 + i)) := by
  obtain ⟨W, L, st, x, lv, sp, w, v⟩ := t
  obtain ⟨ln, wl, s1, g1, d1, lw, xb, nx, lb, pb, vb, gr⟩ := h
  simp only at *
  have r : ∀ j y, j < b + 4 → rd (W.set j y) (b + 4 + i) = rd W (b + 4 + i) := fun j y hj => by rw [rd_set, if_neg (by omega)]
  rcases st_cases nx with rfl | rfl | rfl | rfl | rfl | rfl | rfl | rfl | rfl | rfl
  · exact Ev.refl _ _
  · exact Ev.refl _ _
  · by_cases hq : rd W sp = w
    · simp only [aNext, hq, if_true]
      have h := casW_ev W sp (b + 4 + i) v w
      exact h
    · simp only [aNext, hq, if_false, aMiss_W]
      exact casW_ev W sp (b + 4 + i) v w
  · simp only [aNext]; rw [r _ _ (by omega)]; exact Ev.refl _ _
  · simp only [aNext]; exact casW_ev W sp (b + 4 + i) 0 w
  · simp only [aNext]; rw [r _ _ (by omega)]; exact Ev.refl _ _
  · simp only [aNext]; rw [r _ _ (by omega)]; exact Ev.refl _ _
  · simp only [aNext, aMiss_W]; rw [r _ _ (by omega)]; exact Ev.refl _ _
  · simp only [aNext]; rw [casW_far _ _ _ _ _ (by omega)]; exact Ev.refl _ _
  · rw [aNext_over rfl]; exact Ev.refl _ _
/-- a machine that has not begun: its step begins, or leaves the global word, and what is begun and done -/
theorem aNext_calm {t : AS} (h : AInv b s g d t) (ho : ob t = 0) (hbg : -9223372036854775808 ≤ rd t.W (b + 1) ∧ rd t.W (b + 1) < 9223372036854775807) :
    rd (aNext b s g d t).W (b + 1) = rd t.W (b + 1) + 1 ∨ (rd (aNext b s g d t).W b = rd t.W b ∧ rd (aNext b s g d t).W (b + 1) = rd t.W (b + 1) ∧ rd (aNext b s g d t).W (b + 2) = rd t.W (b + 2)) := by
  obtain ⟨W, L, st, x, lv, sp, w, v⟩ := t
  obtain ⟨ln, wl, s1, g1, d1, lw, xb, nx, lb, pb, vb, gr⟩ := h
  simp only at *
  rcases st_cases nx with rfl | rfl | rfl | rfl | rfl | rfl | rfl | rfl | rfl | rfl
  · exact Or.inr ⟨rfl, rfl, rfl⟩
  · exact Or.inr ⟨rfl, rfl, rfl⟩
  · have pb' := pb (by omega) (by omega)
    have f0 := casW_far W sp b w (pNext6 w v) (by omega)
    have f1 := casW_far W sp (b + 1) w (pNext6 w v) (by omega)
    have f2 := casW_far W sp (b + 2) w (pNext6 w v) (by omega)
    right
    by_cases hq : rd W sp = w
    · simp only [aNext, hq, if_true]; exact ⟨f0, f1, f2⟩
    · simp only [aNext, hq, if_false, aMiss_W]; exact ⟨f0, f1, f2⟩
  · left
    simp only [aNext]
    rw [rd_set_in (by omega), if_pos rfl, wrap64_in (by omega)]
  · simp [ob] at ho
  · simp [ob] at ho
  · simp [ob] at ho
  · simp [ob] at ho
  · right
    simp only [aNext]
    exact ⟨casW_far _ _ _ _ _ (by omega), casW_far _ _ _ _ _ (by omega), casW_far _ _ _ _ _ (by omega)⟩
  · rw [aNext_over rfl]; exact Or.inr ⟨rfl, rfl, rfl⟩
end
/-- an adding machine: its block, its number, its state (but for words and log) -/
structure Am where
  x : Nat
  d : Int
  t : AS
def Am.at (p : Am) (W : List Int) (L : List Acc) : AS := { p.t with W := W, L := L }
def obs : List Am → Int
  | [] => 0
  | p :: l => ob p.t + obs l
theorem ob_nn (t : AS) : 0 ≤ ob t := by unfold ob; split <;> omega
theorem obs_nn (l : List Am) : 0 ≤ obs l := by
  induction l with
  | nil => simp [obs]
  | cons p l ih => have := ob_nn p.t; simp only [obs]; omega
theorem obs_zero {l : List Am} (h : obs l = 0) : ∀ i (hi : i < l.length), ob l[i].t = 0 := by
  induction l with
  | nil => intro i hi; simp at hi
  | cons p l ih =>
    intro i hi
    have h1 := ob_nn p.t
    have h2 := obs_nn l
    simp only [obs] at h
    cases i with
    | zero => show ob p.t = 0; omega
    | succ i => simpa using ih (by omega) i (by simpa using hi)
theorem obs_set (l : List Am) (k : Nat) (q : Am) (hk : k < l.length) : obs (l.set k q) = obs l - ob l[k].t + ob q.t := by
  induction l generalizing k with
  | nil => simp at hk
  | cons p l ih =>
    cases k with
    | zero => simp [obs]; omega
    | succ k => simp only [List.set_cons_succ, obs, List.getElem_cons_succ]; rw [ih k (by simpa using hk)]; omega
theorem obs_app (l : List Am) (q : Am) : obs (l ++ [q]) = obs l + ob q.t := by
  induction l with
  | nil => simp [obs]
  | cons p l ih => simp only [List.cons_append, obs, ih]; omega
/-- machines that add to one counter, behind n steps of theirs -/
structure EI (b s : Nat) (g : Int) (N : Nat) (W : List Int) (L : List Acc) (ms : List Am) (n : Nat) : Prop where
  mi : ∀ i (h : i < ms.length), MI6 b s g ms[i].d (ms[i].at W L)
  ln : W.length = N
  bd : rd W (b + 1) = rd W (b + 2) + obs ms
  gl : -4294967296 - 8796093022208 * n ≤ rd W b ∧ rd W b ≤ 4294967296 + 8796093022208 * n
  bg : 0 ≤ rd W (b + 1) ∧ rd W (b + 1) ≤ n
  dn : 0 ≤ rd W (b + 2) ∧ rd W (b + 2) ≤ n
/-- what a count's try has loaded so far -/
structure XI (b s : Nat) (W : List Int) (got : List Int) (sums : List Int) (n : Nat) : Prop where
  mono : 1 ≤ got.length → got.length ≤ 3 + s → rd got 0 ≤ rd W (b + 1)
  calm : 2 ≤ got.length → got.length ≤ 3 + s → rd got 0 = rd got 1 → rd got 0 = rd W (b + 1) → rd W (b + 2) = rd W (b + 1) ∧ (3 ≤ got.length → rd got 2 = rd W b)
  ev : got.length ≤ 3 + s → ∀ i, i < s → 3 + i < got.length → Ev n (rd got (3 + i)) (rd W (b + 4 + i))
  mid : 3 + s < got.length → ∃ Wm : List Int, (rd got 0 = rd got 1 → rd got 0 = rd got (3 + s) → sumN Wm b s ∈ sums ∧ rd got 2 = rd Wm b) ∧
    (∀ i, i < s → Ev n (rd got (3 + i)) (rd Wm (b + 4 + i)) ∧ Ev n (rd Wm (b + 4 + i)) (rd W (b + 4 + i)) ∧ (4 + s + i < got.length → Ev n (rd Wm (b + 4 + i)) (rd got (4 + s + i))))
section
variable {b s N n : Nat} {g : Int} {W : List Int} {L : List Acc} {ms : List Am} {got sums : List Int}
theorem XI.nil : XI b s W [] sums n := ⟨fun h => by simp at h, fun h => by simp at h, fun _ i _ h => by simp at h, fun h => by simp at h⟩
theorem XI.more {sums' : List Int} (h : XI b s W got sums n) (hs : ∀ x ∈ sums, x ∈ sums') : XI b s W got sums' n :=
  ⟨h.mono, h.calm, h.ev, fun hl => by
    obtain ⟨Wm, h1, h2⟩ := h.mid hl
    exact ⟨Wm, fun a b => ⟨hs _ (h1 a b).1, (h1 a b).2⟩, h2⟩⟩
theorem XI.le {m : Nat} (h : XI b s W got sums n) (hm : n ≤ m) : XI b s W got sums m :=
  ⟨h.mono, h.calm, fun hl i hi hg => (h.ev hl i hi hg).mono hm, fun hl => by
    obtain ⟨Wm, h1, h2⟩ := h.mid hl
    exact ⟨Wm, h1, fun i hi => ⟨(h2 i hi).1.mono hm, (h2 i hi).2.1.mono hm, fun hg => ((h2 i hi).2.2 hg).mono hm⟩⟩⟩
/-- the words are altered by another one -/
theorem XI.other {W' : List Int} (h : XI b s W got sums n) (h1 : rd W (b + 1) ≤ rd W' (b + 1)) (h2 : rd W (b + 2) = rd W (b + 1) → rd W' (b + 1) = rd W (b + 1) → rd W' b = rd W b ∧ rd W' (b + 2) = rd W (b + 2))
    (h3 : ∀ i, i < s → Ev 1 (rd W (b + 4 + i)) (rd W' (b + 4 + i))) : XI b s W' got sums (n + 1) := by
  refine ⟨fun a c => Int.le_trans (h.mono a c) h1, fun a c e1 e2 => ?_, fun hl i hi hg => (h.ev hl i hi hg).trans (h3 i hi), fun hl => ?_⟩
  · have hm := h.mono (by omega) c
    have e3 : rd W' (b + 1) = rd W (b + 1) := by omega
    obtain ⟨q1, q2⟩ := h.calm a c e1 (by omega)
    obtain ⟨r1, r2⟩ := h2 q1 e3
    exact ⟨by omega, fun hl => by rw [q2 hl, r1]⟩
  · obtain ⟨Wm, g1, g2⟩ := h.mid hl
    exact ⟨Wm, g1, fun i hi => ⟨(g2 i hi).1.mono (by omega), (g2 i hi).2.1.trans (h3 i hi), fun hg => ((g2 i hi).2.2 hg).mono (by omega)⟩⟩
theorem gsum_sumN {G Wm : List Int} (h2 : rd G 2 = rd Wm b) (h : ∀ i, i < s → rd G (3 + i) = rd Wm (b + 4 + i)) : ∀ i, i ≤ s → gsum s G i = sumN Wm b i := by
  intro i
  induction i with
  | zero => intro _; exact h2
  | succ i ih =>
    intro hi
    show wrap64 (gsum s G i + pVal (vw s G 3 i)) = wrap64 (sumN Wm b i + pVal (rd Wm (b + 4 + i)))
    rw [ih (by omega), show vw s G 3 i = rd G (3 + i) from by unfold vw; rw [if_pos (by omega)], h i (by omega)]
/-- a word more is loaded -/
theorem XI.load (h : XI b s W got sums n) (hs : 1 ≤ s) (hk : got.length < 4 + 2 * s) (hsum : got ≠ [] → rd W (b + 1) = rd W (b + 2) → sumN W b s ∈ sums) : XI b s W (got ++ [rd W (wat b s got.length)]) sums n := by
  have hl : (got ++ [rd W (wat b s got.length)]).length = got.length + 1 := by simp
  have ha : ∀ {j}, j < got.length → rd (got ++ [rd W (wat b s got.length)]) j = rd got j := fun hj => rd_app hj
  have hz : ∀ {j}, j = got.length → rd (got ++ [rd W (wat b s got.length)]) j = rd W (wat b s j) := fun hj => by rw [rd_last hj, hj]
  refine ⟨fun h1 h2 => ?_, fun h1 h2 e1 e2 => ?_, fun h1 i hi hg => ?_, fun h1 => ?_⟩
  · rw [hl] at h1 h2
    by_cases e : got.length = 0
    · rw [hz e.symm, wat_0]; omega
    · rw [ha (by omega)]; exact h.mono (by omega) (by omega)
  · rw [hl] at h1 h2
    by_cases e : got.length = 1
    · rw [hz e.symm, wat_1] at e1
      exact ⟨by omega, fun h3 => by rw [hl] at h3; omega⟩
    · rw [ha (by omega), ha (by omega)] at e1
      rw [ha (by omega)] at e2
      obtain ⟨q1, q2⟩ := h.calm (by omega) (by omega) e1 e2
      refine ⟨q1, fun h3 => ?_⟩
      by_cases e3 : got.length = 2
      · rw [hz e3.symm, wat_two]
      · rw [ha (by omega)]; exact q2 (by omega)
  · rw [hl] at h1 hg
    by_cases e : 3 + i = got.length
    · rw [hz e, wat_a hi, show b + (4 + i) = b + 4 + i by omega]; exact Ev.refl _ _
    · rw [ha (by omega)]; exact h.ev (by omega) i hi (by omega)
  · rw [hl] at h1
    by_cases e : 3 + s = got.length
    · refine ⟨W, fun e1 e2 => ?_, fun i hi => ⟨?_, Ev.refl _ _, fun hg => by rw [hl] at hg; omega⟩⟩
      · rw [ha (by omega), ha (by omega)] at e1
        rw [ha (by omega), hz e, wat_m] at e2
        obtain ⟨q1, q2⟩ := h.calm (by omega) (by omega) e1 e2
        exact ⟨hsum (fun e => by rw [e] at h1; simp at h1) q1.symm, by rw [ha (by omega)]; exact q2 (by omega)⟩
      · rw [ha (by omega)]
        exact h.ev (by omega) i hi (by omega)
    · obtain ⟨Wm, g1, g2⟩ := h.mid (by omega)
      refine ⟨Wm, fun e1 e2 => ?_, fun i hi => ⟨?_, (g2 i hi).2.1, fun hg => ?_⟩⟩
      · rw [ha (by omega), ha (by omega)] at e1
        rw [ha (by omega), ha (by omega)] at e2
        rw [ha (by omega)]
        exact g1 e1 e2
      · rw [ha (by omega)]; exact (g2 i hi).1
      · rw [hl] at hg
        by_cases e4 : 4 + s + i = got.length
        · rw [hz e4, wat_b hi, show b + (4 + i) = b + 4 + i by omega]; exact (g2 i hi).2.1
        · rw [ha (by omega)]; exact (g2 i hi).2.2 (by omega)
/-- a try that is whole, and alike: its sum was told -/
theorem XI.exact (h : XI b s W got sums n) (hs : 1 ≤ s ∧ s ≤ 8) (hn : n ≤ 2000) (hl : got.length = 4 + 2 * s) (hc : calmB s got = true) : gsum s got 8 ∈ sums := by
  unfold calmB at hc
  simp only [Bool.and_eq_true, beq_iff_eq] at hc
  obtain ⟨c1, c2, c3⟩ := hc
  rw [← vB_view hs.2] at c3
  obtain ⟨Wm, g1, g2⟩ := h.mid (by omega)
  obtain ⟨q1, q2⟩ := g1 c1 c2
  have hv : ∀ i, i < s → rd got (3 + i) = rd Wm (b + 4 + i) := by
    intro i hi
    have e1 := vB_vw s got s (Nat.le_refl _) c3 i hi
    unfold vw at e1
    rw [if_pos hi, if_pos hi] at e1
    obtain ⟨a1, _, a3⟩ := g2 i hi
    have a4 := a3 (by omega)
    rw [← e1] at a4
    exact (Ev.back a1 a4 (by omega)).symm
  rw [gsum_8 s got hs, gsum_sumN q2 hv s (Nat.le_refl _)]
  exact q1
/-- a step of the count -/
theorem XI.count {t : SN} (h : XI b s t.W t.got sums n) (hi : NInv b s t) (hf : t.fin = false) (hn : n ≤ 2000) (hsum : t.got ≠ [] → rd t.W (b + 1) = rd t.W (b + 2) → sumN t.W b s ∈ sums) :
    ((nNext b s t).fin = false → XI b s (nNext b s t).W (nNext b s t).got sums n) ∧ ((nNext b s t).fin = true → (nNext b s t).ex = true → (nNext b s t).n ∈ sums) := by
  have hg := hi.gb hf
  have h1 := h.load hi.s1.1 hg hsum
  unfold nNext
  rw [if_neg (by rw [hf]; decide)]
  split
  · rename_i hk
    unfold clN
    split
    · rename_i hc
      exact ⟨fun h => (by cases h), fun _ _ => h1.exact hi.s1 hn (by simpa using hk) hc⟩
    · split
      · exact ⟨fun h => (by cases h), fun _ h => (by cases h)⟩
      · refine ⟨fun _ => XI.nil, fun h => ?_⟩
        have h' : t.fin = true := h
        rw [hf] at h'
        cases h'
  · refine ⟨fun _ => h1, fun h => ?_⟩
    have h' : t.fin = true := h
    rw [hf] at h'
    cases h'
/-- a step of a machine that adds -/
theorem EI.step (h : EI b s g N W L ms n) (k : Nat) (hk : k < ms.length) (hn : n ≤ 2000) (h9 : ms[k].t.st ≠ 9) :
    EI b s g N (aNext b s g ms[k].d (ms[k].at W L)).W (aNext b s g ms[k].d (ms[k].at W L)).L (ms.set k ⟨ms[k].x, ms[k].d, aNext b s g ms[k].d (ms[k].at W L)⟩) (n + 1) := by
  have hm := h.mi k hk
  have hgl := h.gl
  have hbg := h.bg
  have hdn := h.dn
  have hs := hm.stepL (by show _ ≤ rd W b ∧ rd W b ≤ _; omega) (by show _ ≤ rd W (b + 1) ∧ rd W (b + 1) ≤ _; omega) (by show _ ≤ rd W (b + 2) ∧ rd W (b + 2) ≤ _; omega)
  have s2 : rd _ (b + 1) - rd _ (b + 2) - ob _ = rd W (b + 1) - rd W (b + 2) - ob ms[k].t := hs.bd
  have s3 : rd W b - 8796093022208 ≤ rd _ b ∧ rd _ b ≤ rd W b + 8796093022208 := hs.gl
  have s4 : rd W (b + 1) ≤ rd _ (b + 1) ∧ rd _ (b + 1) ≤ rd W (b + 1) + 1 := hs.bg
  have s5 : rd W (b + 2) ≤ rd _ (b + 2) ∧ rd _ (b + 2) ≤ rd W (b + 2) + 1 := hs.dn
  have hst := hm.step
  have hln := aNext_len (b := b) (s := s) (g := g) (d := ms[k].d) (ms[k].at W L)
  generalize aNext b s g ms[k].d (ms[k].at W L) = t' at *
  have hbd := h.bd
  refine ⟨fun i hi => ?_, hln.trans h.ln, ?_, by omega, by omega, by omega⟩
  · have hi' : i < ms.length := by simpa using hi
    by_cases e : i = k
    · subst e
      rw [List.getElem_set_self]
      exact hst
    · rw [List.getElem_set_ne (fun e2 => e e2.symm)]
      exact (h.mi i hi').other _ _ hln hst.inv.lw
  · rw [obs_set _ _ _ hk]
    simp only
    omega
/-- its words, for the count -/
theorem EI.other (h : EI b s g N W L ms n) (hx : XI b s W got sums n) (k : Nat) (hk : k < ms.length) (hn : n ≤ 2000) : XI b s (aNext b s g ms[k].d (ms[k].at W L)).W got sums (n + 1) := by
  have hm := h.mi k hk
  have hgl := h.gl
  have hbg := h.bg
  have hdn := h.dn
  have hs := hm.stepL (by show _ ≤ rd W b ∧ rd W b ≤ _; omega) (by show _ ≤ rd W (b + 1) ∧ rd W (b + 1) ≤ _; omega) (by show _ ≤ rd W (b + 2) ∧ rd W (b + 2) ≤ _; omega)
  refine hx.other hs.bg.1 (fun hc he => ?_) (fun i hi => aNext_ev hm.inv hi)
  have hz : obs ms = 0 := by have := h.bd; omega
  have ho : ob (ms[k].at W L) = 0 := obs_zero hz k hk
  rcases aNext_calm hm.inv ho (by show _ ≤ rd W (b + 1) ∧ rd W (b + 1) < _; omega) with h1 | ⟨h1, h2, h3⟩
  · have h1' : _ = rd W (b + 1) + 1 := h1
    omega
  · exact ⟨h1, h3⟩
end
end Go.Proofs.Ytlkniogapdhcpaa
