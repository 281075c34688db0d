/- A pool's machine: what is left; alone; what its accesses added. -/
import Derived.Test.YtonekdolmbdniaaPoolR
namespace Go.Proofs.Ytonekdolmbdniaa
open Go.RowKit
set_option linter.unusedVariables false
set_option linter.unusedSimpArgs false

@[go_sem] theorem field_ans_0 (x0 x1 x2 x3 : Value) (w : World) : (Instr.field 44 (.agg #[x0, x1, x2, x3]) 0).run Try.prog w = .ok x0 w := by kernel_rfl
theorem leftN_out (W : List Int) (av i : Nat) (x : Int) (s : Nat) (h : i < av ∨ av + s < i) : leftN (W.set i x) av s = leftN W av s := by
  induction s with
  | zero => rw [leftN, leftN, rd_set, if_neg (by omega)]
  | succ s ih => rw [leftN, leftN, ih (by omega), rd_set, if_neg (by omega)]
theorem leftN_set (W : List Int) (av i : Nat) (x : Int) (s : Nat) (h1 : av ≤ i) (h2 : i ≤ av + s) (h3 : i < W.length) : leftN (W.set i x) av s = leftN W av s - rd W i + x := by
  induction s with
  | zero =>
    have e : i = av := by omega
    subst e
    rw [leftN, leftN, rd_set, if_pos ⟨rfl, h3⟩]; omega
  | succ s ih =>
    rw [leftN, leftN]
    by_cases e : i = av + 1 + s
    · subst e
      rw [leftN_out W av _ x s (by omega), rd_set, if_pos ⟨rfl, h3⟩]; omega
    · rw [ih (by omega), rd_set, if_neg (by omega)]; omega
section
variable {av u s : Nat} {n lim X : Int}
theorem leftN_step {t : PS} (h : PInv av (av + 1 + u) n lim X t) (hu : u < s) (h7 : t.next < 7) :
    leftN (pNext av (av + 1 + u) n lim t).W av s = leftN t.W av s + (pOwn n (pNext av (av + 1 + u) n lim t) - pOwn n t) := by
  obtain ⟨W, L, next, had, saw, extra, bad⟩ := t
  obtain ⟨la, ll, ne, n1, m1, wl, wa, nx, s1, s3, s4, s5, b⟩ := h
  simp only at *
  obtain rfl : bad = false := by
    cases bad with
    | false => rfl
    | true => have := b rfl; omega
  have hA := fun x => leftN_set W av av x s (by omega) (by omega) la
  have hL := fun x => leftN_set W av (av + 1 + u) x s (by omega) (by omega) ll
  have hx : next = 0 ∨ next = 1 ∨ next = 2 ∨ next = 3 ∨ next = 4 ∨ next = 5 ∨ next = 6 := by omega
  rcases hx with rfl | rfl | rfl | rfl | rfl | rfl | rfl
  · by_cases c : n ≤ rd W (av + 1 + u) <;> simp [pNext, pOwn, c]
  · by_cases c : rd W (av + 1 + u) = had <;> simp [pNext, pOwn, c, casW, hL] <;> omega
  · by_cases c : rd W av < n <;> simp [pNext, pOwn, c]
  · obtain ⟨q1, q2, q3⟩ := s3 rfl
    by_cases c : rd W av = saw
    · by_cases c2 : extra = 0 <;> simp [pNext, pOwn, c, c2, casW, hA] <;> omega
    · simp [pNext, pOwn, c, casW]
  · by_cases c : rd W (av + 1 + u) + extra ≤ lim <;> simp [pNext, pOwn, c]
  · by_cases c : rd W (av + 1 + u) = had <;> simp [pNext, pOwn, c, casW, hL] <;> omega
  · simp [pNext, pOwn, hA] <;> omega

theorem pAcc_small {le : Nat} {t : PS} (h : PInv av le n lim X t) (h7 : t.next < 7) (hX : X ≤ 2199023255552) : ∃ a, (pNext av le n lim t).L = t.L ++ [a] ∧ smallAcc a := by
  obtain ⟨W, L, next, had, saw, extra, bad⟩ := t
  obtain ⟨la, ll, ne, n1, m1, wl, wa, nx, s1, s3, s4, s5, b⟩ := h
  simp only at *
  have hx : next = 0 ∨ next = 1 ∨ next = 2 ∨ next = 3 ∨ next = 4 ∨ next = 5 ∨ next = 6 := by omega
  rcases hx with rfl | rfl | rfl | rfl | rfl | rfl | rfl
  · exact ⟨⟨1, le, rd W le, 0, false⟩, by simp [pNext], by unfold smallAcc; simp only; omega⟩
  · have := s1 rfl
    exact ⟨⟨3, le, had, had - n, rd W le == had⟩, by simp [pNext], by unfold smallAcc; simp only; omega⟩
  · exact ⟨⟨1, av, rd W av, 0, false⟩, by by_cases c : rd W av < n <;> simp [pNext, c], by unfold smallAcc; simp only; omega⟩
  · obtain ⟨q1, q2, q3⟩ := s3 rfl
    exact ⟨⟨3, av, saw, saw - n - extra, rd W av == saw⟩, by simp [pNext], by unfold smallAcc; simp only; omega⟩
  · exact ⟨⟨1, le, rd W le, 0, false⟩, by simp [pNext], by unfold smallAcc; simp only; omega⟩
  · have := s5 rfl
    have := s4 (by simp)
    exact ⟨⟨3, le, had, had + extra, rd W le == had⟩, by simp [pNext], by unfold smallAcc; simp only; omega⟩
  · have := s4 (by simp)
    exact ⟨⟨2, av, extra, rd W av + extra, false⟩, by simp [pNext], by unfold smallAcc; simp only; omega⟩

/-- what holds of a machine behind k steps, whatever others do -/
structure PExact (av le : Nat) (n lim X : Int) (k : Nat) (t : PS) : Prop where
  inv : PInv av le n lim (X + 1048576 * k) t
  own : ownS t.L = pOwn n t
  acc : ∀ a ∈ t.L, (a.w = av ∨ a.w = le) ∧ 1 ≤ a.kind ∧ a.kind ≤ 3 ∧ smallAcc a
  cnt : t.L.length ≤ k
theorem pPlay_exact {le : Nat} (len : Nat) (l : List Pk) (hok : okPokes av le lim X l) (hX : X ≤ 1099511627776) {t : PS} (h0 : PExact av le n lim X 0 t) (k : Nat) (hk : k ≤ 1000) :
    PExact av le n lim X (playF (pStp av le n lim) pPk len l k 0 t).2.1 (playF (pStp av le n lim) pPk len l k 0 t).1 := by
  have hle := pPlay_le (av := av) (le := le) (n := n) (lim := lim) len l k 0 t
  refine playF_inv (fun k t => k ≤ 1000 → PExact av le n lim X k t) (fun k t h hk => ?_) (fun k t h hk => ?_) k 0 t (fun _ => h0) (by omega)
  · have h := h hk
    have hp : okPokes av le lim (X + 1048576 * k) l := fun p hp => ⟨fun e => by have := (hok p hp).1 e; omega, (hok p hp).2⟩
    obtain ⟨W', e, _⟩ := pokeAll_any len k l t
    have h2 := h.inv.pokes len k l hp
    rw [e] at h2 ⊢
    exact ⟨h2, h.own, h.acc, h.cnt⟩
  · have h := h (by omega)
    show PExact av le n lim X (k + 1) (pNext av le n lim t)
    by_cases h7 : t.next = 7
    · rw [pNext_over h7]
      exact ⟨h.inv.more (by omega), h.own, h.acc, by have := h.cnt; omega⟩
    · have h7' : t.next < 7 := by have := h.inv.nx; omega
      obtain ⟨a, e1, e2, e3, e4, _⟩ := pOwn_step h.inv h7'
      obtain ⟨b, f1, f2⟩ := pAcc_small h.inv h7' (by omega)
      obtain rfl : a = b := by
        rw [e1] at f1
        simpa using f1
      refine ⟨h.inv.step.more (by omega), by rw [e1, ownS_snoc, h.own, e2]; omega, fun x hx => ?_, by rw [e1]; have := h.cnt; simp; omega⟩
      rw [e1] at hx
      rcases List.mem_append.1 hx with hx | hx
      · exact h.acc x hx
      · rw [List.mem_singleton] at hx
        subst hx
        exact ⟨e3, e4.1, e4.2, f2⟩
theorem PExact.start {le : Nat} {W : List Int} (h : PInv av le n lim X ⟨W, [], 0, 0, 0, 0, false⟩) : PExact av le n lim X 0 ⟨W, [], 0, 0, 0, 0, false⟩ :=
  ⟨h.more (by omega), by simp [ownS, pOwn], by simp, by simp⟩
theorem okPokes8 {le : Nat} {l : Int} (K : List Pk) (ne : av ≠ le) (hl : 0 ≤ l) : okPokes av le l 4294967296 (K.map (poke8 av le l)) := by
  intro p hp
  rw [List.mem_map] at hp
  obtain ⟨q, _, rfl⟩ := hp
  unfold poke8
  have h1 := Int.emod_nonneg (if q.x < 0 then 0 else q.x) (show (4294967296 : Int) ≠ 0 by omega)
  have h2 := Int.emod_lt_of_pos (if q.x < 0 then 0 else q.x) (show (0 : Int) < 4294967296 by omega)
  have h3 := Int.emod_nonneg (if q.x < 0 then 0 else q.x) (show l + 1 ≠ 0 by omega)
  have h4 := Int.emod_lt_of_pos (if q.x < 0 then 0 else q.x) (show 0 < l + 1 by omega)
  split
  · exact ⟨fun _ => ⟨h1, by simp only; omega⟩, fun e => by simp only at e; omega⟩
  · exact ⟨fun e => by simp only at e; omega, fun _ => ⟨h3, by simp only; omega⟩⟩

/-- what holds of a machine that is alone: W the words at its beginning -/
structure PAl (av le : Nat) (n : Int) (W : List Int) (t : PS) : Prop where
  nx : t.next ≤ 7
  b : t.next < 7 → t.bad = false
  w : t.next < 4 → t.W = W
  s1 : t.next = 1 → n ≤ rd W le ∧ t.had = rd W le
  s2 : t.next = 2 ∨ t.next = 3 → rd W le < n
  s3 : t.next = 3 → n ≤ rd W av
  s4 : t.next = 4 ∨ t.next = 5 ∨ t.next = 6 → n ≤ rd W av
  s7 : t.next = 7 → t.bad = (decide (rd W le < n) && decide (rd W av < n)) ∧ (t.bad = true → t.W = W)
theorem PAl.step {le : Nat} {W : List Int} {t : PS} (h : PAl av le n W t) : PAl av le n W (pNext av le n lim t) := by
  by_cases h7 : t.next = 7
  · rw [pNext_over h7]; exact h
  obtain ⟨W', L, next, had, saw, extra, bad⟩ := t
  obtain ⟨nx, b, w, s1, s2, s3, s4, s7⟩ := h
  simp only at *
  obtain rfl : bad = false := b (by omega)
  have hx : next = 0 ∨ next = 1 ∨ next = 2 ∨ next = 3 ∨ next = 4 ∨ next = 5 ∨ next = 6 := by omega
  rcases hx with rfl | rfl | rfl | rfl | rfl | rfl | rfl
  · obtain rfl := w (by omega)
    by_cases c : n ≤ rd W' le
    · constructor <;> simp [pNext, c]
    · constructor <;> simp [pNext, c] <;> omega
  · obtain rfl := w (by omega)
    obtain ⟨q1, q2⟩ := s1 rfl
    have q3 : ¬ rd W' le < n := by omega
    constructor <;> simp [pNext, q2, q3]
  · obtain rfl := w (by omega)
    have q := s2 (Or.inl rfl)
    by_cases c : rd W' av < n
    · constructor <;> simp [pNext, c, q]
    · constructor <;> simp [pNext, c, q] <;> omega
  · obtain rfl := w (by omega)
    have q := s2 (Or.inr rfl)
    have q2 := s3 rfl
    have q3 : ¬ rd W' av < n := by omega
    by_cases c : rd W' av = saw
    · by_cases c2 : extra = 0
      · constructor <;> simp [pNext, c, c2] <;> first | omega | (intro _; omega) | skip
      · constructor <;> simp [pNext, c, c2] <;> omega
    · have hw : casW W' av saw (saw - n - extra) = W' := by simp [casW, c]
      constructor <;> simp [pNext, c, hw] <;> omega
  · have q := s4 (by simp)
    have q3 : ¬ rd W av < n := by omega
    by_cases c : rd W' le + extra ≤ lim <;> constructor <;> simp [pNext, c] <;> omega
  · have q := s4 (by simp)
    have q3 : ¬ rd W av < n := by omega
    by_cases c : rd W' le = had <;> constructor <;> simp [pNext, c, q3] <;> omega
  · have q := s4 (by simp)
    have q3 : ¬ rd W av < n := by omega
    constructor <;> simp [pNext, q3]
theorem playF_more {τ : Type} {stp : τ → τ × Bool} {pk : τ → Nat → Int → τ} {len : Nat} {l : List Pk} (j : Nat) : ∀ (k m : Nat) (t : τ), (playF stp pk len l k m t).2.2 = true → playF stp pk len l (k + j) m t = playF stp pk len l k m t := by
  intro k
  induction k with
  | zero => intro m t h; cases h
  | succ k ih =>
    intro m t h
    rw [show k + 1 + j = (k + j) + 1 from by omega, playF_succ, playF_succ]
    rw [playF_succ] at h
    split
    · rfl
    · rename_i c
      rw [if_neg c] at h
      exact ih _ _ h
/-- alone -/
theorem pAlone {W : List Int} (h : PInv av (av + 1 + u) n lim X ⟨W, [], 0, 0, 0, 0, false⟩) (hu : u < s) (hX : X ≤ 1099511627776) (len : Nat) :
    ∃ pt k, playF (pStp av (av + 1 + u) n lim) pPk len [] 300 0 ⟨W, [], 0, 0, 0, 0, false⟩ = (pt, k, true) ∧ 2 ≤ k ∧ k ≤ 5 ∧ pt.next = 7 ∧ pt.bad = (decide (rd W (av + 1 + u) < n) && decide (rd W av < n)) ∧ (pt.bad = true → pt.W = W) ∧ (pt.bad = false → leftN pt.W av s = leftN W av s - n) := by
  have e5 := pPlay_ends (av := av) (le := av + 1 + u) (n := n) (lim := lim) len [] 5 0 ⟨W, [], 0, 0, 0, 0, false⟩ (by simp) (by simp [pNeed, remAt])
  have e300 := playF_more 295 5 0 _ e5
  have hle := pPlay_le (av := av) (le := av + 1 + u) (n := n) (lim := lim) len [] 5 0 ⟨W, [], 0, 0, 0, 0, false⟩
  have htold := (pPlay_told (av := av) (le := av + 1 + u) (n := n) (lim := lim) len [] 5 0 ⟨W, [], 0, 0, 0, 0, false⟩ (by simp)).1 e5
  have hal := playF_inv (fun k t => PAl av (av + 1 + u) n W t) (stp := pStp av (av + 1 + u) n lim) (pk := pPk) (len := len) (l := []) (fun _ _ h => h) (fun _ _ h => h.step) 5 0 ⟨W, [], 0, 0, 0, 0, false⟩ (by constructor <;> simp)
  have hlf := playF_inv (fun k t => k ≤ 1000 → PInv av (av + 1 + u) n lim (X + 1048576 * (k : Int)) t ∧ leftN t.W av s = leftN W av s + pOwn n t) (stp := pStp av (av + 1 + u) n lim) (pk := pPk) (len := len) (l := []) (fun _ _ h => h) (fun k t h hk => by
    obtain ⟨h1, h2⟩ := h (by omega)
    refine ⟨h1.step.more (by omega), ?_⟩
    show leftN (pNext av (av + 1 + u) n lim t).W av s = _ + pOwn n (pNext av (av + 1 + u) n lim t)
    by_cases h7 : t.next = 7
    · rw [pNext_over h7]; exact h2
    · rw [leftN_step h1 hu (by have := h1.nx; omega), h2]; omega) 5 0 ⟨W, [], 0, 0, 0, 0, false⟩ (fun _ => ⟨h.more (by omega), by simp [pOwn]⟩)
  have h2 : 2 ≤ (playF (pStp av (av + 1 + u) n lim) pPk len [] 5 0 ⟨W, [], 0, 0, 0, 0, false⟩).2.1 := by
    have hb : (pStp av (av + 1 + u) n lim ⟨W, [], 0, 0, 0, 0, false⟩).2 = false := by
      by_cases c : n ≤ rd W (av + 1 + u) <;> simp [pStp, pNext, c]
    rw [playF_succ, pokeAll_nil, hb, if_neg (by simp), playF_succ]
    split
    · simp
    · rename_i c
      have := e5
      rw [playF_succ, pokeAll_nil, hb, if_neg (by simp), playF_succ, if_neg c] at this
      have h3 : ∀ (k m : Nat) (t : PS), (playF (pStp av (av + 1 + u) n lim) pPk len [] k m t).2.2 = true → m ≤ (playF (pStp av (av + 1 + u) n lim) pPk len [] k m t).2.1 := by
        intro k
        induction k with
        | zero => intro m t h; exact Nat.le_refl _
        | succ k ih =>
          intro m t h
          rw [playF_succ] at h ⊢
          split
          · simp
          · rename_i c
            rw [if_neg c] at h
            have := ih _ _ h
            omega
      exact h3 _ _ _ this
  rw [show 5 + 295 = 300 from rfl] at e300
  rw [e300]
  generalize playF (pStp av (av + 1 + u) n lim) pPk len [] 5 0 ⟨W, [], 0, 0, 0, 0, false⟩ = pf at *
  obtain ⟨pt, k, b⟩ := pf
  simp only at *
  obtain ⟨a1, a2⟩ := hal.s7 htold
  subst e5
  refine ⟨pt, k, rfl, h2, by omega, htold, a1, a2, fun hb => ?_⟩
  have := (hlf (by omega)).2
  rw [this]
  simp [pOwn, htold, hb]; omega
end
end Go.Proofs.Ytonekdolmbdniaa
