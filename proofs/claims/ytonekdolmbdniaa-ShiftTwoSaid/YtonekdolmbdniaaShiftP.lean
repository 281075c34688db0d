/- What a machine of layer 9 computes, in plain Lean: kinds 0 refund, 1 raise, 2 lower; stages 0 look, 1 cas, 2 add, 3 over. f is the word that is looked at, g the other one. -/
import Derived.Test.YtonekdolmbdniaaLawEightD
namespace Go.Proofs.Ytonekdolmbdniaa
open Go.RowKit
set_option linter.unusedVariables false
set_option linter.unusedSimpArgs false

structure SS where
  W : List Int
  L : List Acc
  st : Nat
  saw : Int
  bad : Bool
def sRef (kd : Nat) (n saw : Int) : Bool := if kd = 1 then decide (1099511627776 - n < saw) else decide (saw < n)
def sBy (kd : Nat) (n : Int) : Int := if kd = 2 then -n else n

section
variable (kd f g : Nat) (n : Int)
def sNext (t : SS) : SS :=
  if t.st = 0 then { t with L := t.L ++ [⟨1, f, rd t.W f, 0, false⟩], saw := rd t.W f, st := if sRef kd n (rd t.W f) = true then 3 else 1, bad := sRef kd n (rd t.W f) }
  else if t.st = 1 then { t with W := casW t.W f t.saw (t.saw + sBy kd n), L := t.L ++ [⟨3, f, t.saw, t.saw + sBy kd n, rd t.W f == t.saw⟩], st := if rd t.W f = t.saw then 2 else 0 }
  else if t.st = 2 then { t with W := t.W.set g (rd t.W g + sBy kd n), L := t.L ++ [⟨2, g, sBy kd n, rd t.W g + sBy kd n, false⟩], st := 3 }
  else t
def sStp (t : SS) : SS × Bool := (sNext kd f g n t, decide ((sNext kd f g n t).st = 3))
def sPk (t : SS) (i : Nat) (x : Int) : SS := { t with W := t.W.set i x }

/-- what holds of a machine, and of its words: X bounds both -/
structure SInv (X : Int) (t : SS) : Prop where
  lf : f < t.W.length
  lg : g < t.W.length
  ne : f ≠ g
  k2 : kd ≤ 2
  n1 : 1 ≤ n ∧ n ≤ 1048576
  wf : -X ≤ rd t.W f ∧ rd t.W f ≤ X
  wg : -X ≤ rd t.W g ∧ rd t.W g ≤ X
  sw : -X ≤ t.saw ∧ t.saw ≤ X
  nx : t.st ≤ 3
  k0 : kd = 0 → 2 ≤ t.st ∧ t.bad = false
  b : t.bad = true → t.st = 3
variable {kd f g n}
theorem sBy_bd (h : 1 ≤ n ∧ n ≤ 1048576) : -1048576 ≤ sBy kd n ∧ sBy kd n ≤ 1048576 := by unfold sBy; split <;> omega
theorem SInv.more {X Y : Int} {t : SS} (h : SInv kd f g n X t) (hY : X ≤ Y) : SInv kd f g n Y t :=
  ⟨h.lf, h.lg, h.ne, h.k2, h.n1, by have := h.wf; omega, by have := h.wg; omega, by have := h.sw; omega, h.nx, h.k0, h.b⟩
theorem SInv.poke {X : Int} {t : SS} (h : SInv kd f g n X t) (i : Nat) (x : Int) (hi : (i = f ∨ i = g) → -X ≤ x ∧ x ≤ X) : SInv kd f g n X (sPk t i x) := by
  refine ⟨by simpa [sPk] using h.lf, by simpa [sPk] using h.lg, h.ne, h.k2, h.n1, ?_, ?_, h.sw, h.nx, h.k0, h.b⟩
  · show -X ≤ rd (t.W.set i x) f ∧ rd (t.W.set i x) f ≤ X
    rw [rd_set]
    split
    · rename_i e; exact hi (Or.inl e.1.symm)
    · exact h.wf
  · show -X ≤ rd (t.W.set i x) g ∧ rd (t.W.set i x) g ≤ X
    rw [rd_set]
    split
    · rename_i e; exact hi (Or.inr e.1.symm)
    · exact h.wg
theorem sNext_over {t : SS} (h : t.st = 3) : sNext kd f g n t = t := by simp [sNext, h]
theorem sNext_len (t : SS) : (sNext kd f g n t).W.length = t.W.length := by
  unfold sNext
  repeat (first | (split) | rfl | (simp [casW_length]))
theorem sNext_log (t : SS) (h : t.st < 3) : (sNext kd f g n t).L.length = t.L.length + 1 := by
  unfold sNext
  repeat' split
  all_goals first | omega | (simp; done)
theorem sNext_le {t : SS} (h : t.st ≤ 3) : (sNext kd f g n t).st ≤ 3 := by
  unfold sNext
  repeat' split
  all_goals first | (simp only; repeat' split) | skip
  all_goals omega
theorem SInv.step {X : Int} {t : SS} (h : SInv kd f g n X t) (hX : 0 ≤ X) : SInv kd f g n (X + 1048576) (sNext kd f g n t) := by
  have h' := h.more (Y := X + 1048576) (by omega)
  have hb := sBy_bd (kd := kd) h.n1
  obtain ⟨W, L, st, saw, bad⟩ := t
  obtain ⟨lf, lg, ne, k2, n1, wf, wg, sw, nx, k0, b⟩ := h
  simp only at *
  have hx : st = 0 ∨ st = 1 ∨ st = 2 ∨ st = 3 := by omega
  rcases hx with rfl | rfl | rfl | rfl
  · have hk : kd ≠ 0 := fun e => by have := k0 e; omega
    cases c : sRef kd n (rd W f)
    · constructor <;> simp [sNext, c] at b ⊢ <;> first | assumption | omega
    · constructor <;> simp [sNext, c] at b ⊢ <;> first | assumption | omega
  · have hk : kd ≠ 0 := fun e => by have := k0 e; omega
    generalize hby : sBy kd n = by_ at *
    by_cases c : rd W f = saw
    · constructor <;> simp [sNext, hby, c, casW_length, rd_casW, ne, Ne.symm ne, lf] at b ⊢ <;> first | assumption | omega
    · constructor <;> simp [sNext, hby, c, casW_length, rd_casW] at b ⊢ <;> first | assumption | omega
  · generalize hby : sBy kd n = by_ at *
    constructor <;> simp [sNext, hby, rd_set, ne, Ne.symm ne, lg] at b ⊢ <;> first | assumption | omega | (exact fun e => (k0 e).2) | skip
  · exact h'

/-- how many steps a machine needs yet, if nothing is done meanwhile -/
def sNeed (f : Nat) (t : SS) : Nat := if t.st = 0 then 3 else if t.st = 1 then (if rd t.W f = t.saw then 2 else 4) else if t.st = 2 then 1 else 0
theorem sNeed_step {t : SS} (h : t.st < 3) : sNeed f (sNext kd f g n t) + 1 ≤ sNeed f t := by
  obtain ⟨W, L, st, saw, bad⟩ := t
  simp only at h
  have hx : st = 0 ∨ st = 1 ∨ st = 2 := by omega
  rcases hx with rfl | rfl | rfl
  · cases c : sRef kd n (rd W f) <;> simp [sNext, sNeed, c]
  · by_cases c : rd W f = saw <;> simp [sNext, sNeed, c]
  · simp [sNext, sNeed]
theorem sNeed_any (W' : List Int) (t : SS) : sNeed f { t with W := W' } ≤ sNeed f t + 2 := by
  unfold sNeed
  simp only
  repeat' split
  all_goals omega
theorem sNeed_zero {t : SS} (h : t.st ≤ 3) (h0 : sNeed f t = 0) : t.st = 3 := by
  unfold sNeed at h0
  repeat' split at h0
  all_goals omega

theorem sPokeAll_any (len : Nat) (i : Int) (l : List Pk) (t : SS) : ∃ W', pokeAll sPk len i l t = { t with W := W' } ∧ W'.length = t.W.length := by
  unfold pokeAll
  induction l generalizing t with
  | nil => exact ⟨t.W, rfl, rfl⟩
  | cons p l ih =>
    rw [List.foldl_cons]
    split
    · obtain ⟨W', h1, h2⟩ := ih (sPk t p.w.toNat p.x)
      exact ⟨W', h1, by rw [h2]; simp [sPk]⟩
    · exact ih t
def okPokesS (f g : Nat) (X : Int) (l : List Pk) : Prop := ∀ p ∈ l, (p.w = f ∨ p.w = g) → -X ≤ p.x ∧ p.x ≤ X
theorem SInv.pokes {X : Int} {t : SS} (h : SInv kd f g n X t) (len : Nat) (i : Int) (l : List Pk) (hl : okPokesS f g X l) : SInv kd f g n X (pokeAll sPk len i l t) := by
  unfold pokeAll
  induction l generalizing t with
  | nil => exact h
  | cons p l ih =>
    rw [List.foldl_cons]
    have hl2 : okPokesS f g X l := fun q hq => hl q (List.mem_cons_of_mem _ hq)
    split
    · rename_i c
      exact ih (h.poke _ _ (fun e => hl p (by simp) (by omega))) hl2
    · exact ih h hl2
theorem sNeed_pokes (len : Nat) (i : Int) (l : List Pk) (t : SS) : sNeed f (pokeAll sPk len i l t) ≤ sNeed f t + 2 * thisAt i l := by
  by_cases h : thisAt i l = 0
  · have e : pokeAll sPk len i l t = t := by
      unfold pokeAll
      unfold thisAt at h
      have h' := List.eq_nil_of_length_eq_zero h
      rw [List.filter_eq_nil_iff] at h'
      clear h
      induction l generalizing t with
      | nil => rfl
      | cons p l ih =>
        rw [List.foldl_cons, if_neg (fun c => h' p (by simp) (by simpa using c.1))]
        exact ih t (fun q hq => h' q (List.mem_cons_of_mem _ hq))
    rw [e]; omega
  · obtain ⟨W', e, _⟩ := sPokeAll_any len i l t
    rw [e]
    have := sNeed_any (f := f) W' t
    omega
theorem sStp_false {t : SS} (h : (sStp kd f g n t).2 = false) : (sNext kd f g n t).st ≠ 3 := by simpa [sStp] using h
theorem sStp_true {t : SS} (h : (sStp kd f g n t).2 = true) : (sNext kd f g n t).st = 3 := by simpa [sStp] using h
/-- it ends -/
theorem sPlay_ends (len : Nat) (l : List Pk) : ∀ (k m : Nat) (t : SS), t.st < 3 → sNeed f t + 2 * remAt m l ≤ k → (playF (sStp kd f g n) sPk len l k m t).2.2 = true := by
  intro k
  induction k with
  | zero =>
    intro m t h7 h
    have := sNeed_zero (f := f) (t := t) (by omega) (by omega)
    omega
  | succ k ih =>
    intro m t h7 h
    rw [playF_succ]
    cases hb : (sStp kd f g n (pokeAll sPk len m l t)).2
    · rw [if_neg (by simp)]
      obtain ⟨W', e, _⟩ := sPokeAll_any len m l t
      have h7' : (pokeAll sPk len m l t).st < 3 := by rw [e]; exact h7
      have h1 := sNeed_pokes (f := f) len m l t
      have h2 := sNeed_step (kd := kd) (f := f) (g := g) (n := n) h7'
      have h3 := remAt_succ m l
      have h4 := sStp_false hb
      have h5 : (sNext kd f g n (pokeAll sPk len m l t)).st ≤ 3 := sNext_le (by omega)
      refine ih (m + 1) _ (show (sNext kd f g n (pokeAll sPk len m l t)).st < 3 by omega) ?_
      show sNeed f (sNext kd f g n (pokeAll sPk len m l t)) + 2 * remAt ((m + 1 : Nat) : Int) l ≤ k
      rw [show ((m + 1 : Nat) : Int) = (m : Int) + 1 from by omega]
      omega
    · rfl
theorem sPlay_told (len : Nat) (l : List Pk) : ∀ (k m : Nat) (t : SS), t.st < 3 → ((playF (sStp kd f g n) sPk len l k m t).2.2 = true → (playF (sStp kd f g n) sPk len l k m t).1.st = 3) ∧
    ((playF (sStp kd f g n) sPk len l k m t).2.2 = false → (playF (sStp kd f g n) sPk len l k m t).1.st < 3 ∧ (playF (sStp kd f g n) sPk len l k m t).2.1 = m + k) := by
  intro k
  induction k with
  | zero => intro m t h; exact ⟨fun h => (by cases h), fun _ => ⟨h, rfl⟩⟩
  | succ k ih =>
    intro m t h
    obtain ⟨W', e, _⟩ := sPokeAll_any len m l t
    have h7' : (pokeAll sPk len m l t).st < 3 := by rw [e]; exact h
    rw [playF_succ]
    cases hb : (sStp kd f g n (pokeAll sPk len m l t)).2
    · rw [if_neg (by simp)]
      have h4 := sStp_false hb
      have h5 : (sNext kd f g n (pokeAll sPk len m l t)).st ≤ 3 := sNext_le (by omega)
      have h6 := ih (m + 1) (sStp kd f g n (pokeAll sPk len m l t)).1 (show (sNext kd f g n (pokeAll sPk len m l t)).st < 3 by omega)
      exact ⟨h6.1, fun e => ⟨(h6.2 e).1, by rw [(h6.2 e).2]; omega⟩⟩
    · rw [if_pos rfl]
      exact ⟨fun _ => sStp_true hb, fun h => (by cases h)⟩
theorem sPlay_le (len : Nat) (l : List Pk) : ∀ (k m : Nat) (t : SS), (playF (sStp kd f g n) sPk len l k m t).2.1 ≤ m + k := by
  intro k
  induction k with
  | zero => intro m t; exact Nat.le_refl _
  | succ k ih =>
    intro m t
    rw [playF_succ]
    split
    · simp only; omega
    · have := ih (m + 1) (sStp kd f g n (pokeAll sPk len m l t)).1
      omega

/-- what a log's accesses added to a word -/
def addS (wd : Nat) (L : List Acc) : Int := L.foldl (fun s a => s + (if a.w = (wd : Int) then ownD a else 0)) 0
theorem addS_snoc (wd : Nat) (L : List Acc) (a : Acc) : addS wd (L ++ [a]) = addS wd L + (if a.w = (wd : Int) then ownD a else 0) := by simp [addS]
def ownF (kd : Nat) (n : Int) (t : SS) : Int := if kd ≠ 0 ∧ (t.st = 2 ∨ t.st = 3 ∧ t.bad = false) then sBy kd n else 0
def ownG (kd : Nat) (n : Int) (t : SS) : Int := if t.st = 3 ∧ t.bad = false then sBy kd n else 0
theorem sOwn_step {X : Int} {t : SS} (h : SInv kd f g n X t) (h7 : t.st < 3) (hX : 0 ≤ X ∧ X ≤ 2199023255552) : ∃ a, (sNext kd f g n t).L = t.L ++ [a] ∧ (if a.w = (f : Int) then ownD a else 0) = ownF kd n (sNext kd f g n t) - ownF kd n t ∧ (if a.w = (g : Int) then ownD a else 0) = ownG kd n (sNext kd f g n t) - ownG kd n t ∧
    (a.w = f ∨ a.w = g) ∧ 1 ≤ a.kind ∧ a.kind ≤ 3 ∧ smallAcc a := by
  have hb := sBy_bd (kd := kd) h.n1
  obtain ⟨W, L, st, saw, bad⟩ := t
  obtain ⟨lf, lg, ne, k2, n1, wf, wg, sw, nx, k0, b⟩ := h
  simp only at *
  obtain rfl : bad = false := by
    cases bad with
    | false => rfl
    | true => have := b rfl; omega
  have hx : st = 0 ∨ st = 1 ∨ st = 2 := by omega
  have ne2 : ¬ (f : Int) = (g : Int) := by omega
  have ne3 : ¬ (g : Int) = (f : Int) := by omega
  rcases hx with rfl | rfl | rfl
  · have hk : kd ≠ 0 := fun e => by have := k0 e; omega
    refine ⟨⟨1, f, rd W f, 0, false⟩, by simp [sNext], ?_, ?_, Or.inl rfl, by simp, by simp, by unfold smallAcc; simp only; omega⟩
    · cases c : sRef kd n (rd W f) <;> simp [sNext, ownF, ownD, c]
    · cases c : sRef kd n (rd W f) <;> simp [sNext, ownG, ownD, c]
  · have hk : kd ≠ 0 := fun e => by have := k0 e; omega
    generalize hby : sBy kd n = by_ at *
    refine ⟨⟨3, f, saw, saw + by_, rd W f == saw⟩, by simp [sNext, hby], ?_, ?_, Or.inl rfl, by simp, by simp, by unfold smallAcc; simp only; omega⟩
    · by_cases c : rd W f = saw <;> simp [sNext, ownF, ownD, c, hby, hk] <;> omega
    · by_cases c : rd W f = saw <;> simp [sNext, ownG, ownD, c, hby, ne2]
  · generalize hby : sBy kd n = by_ at *
    refine ⟨⟨2, g, by_, rd W g + by_, false⟩, by simp [sNext, hby], ?_, ?_, Or.inr rfl, by simp, by simp, by unfold smallAcc; simp only; omega⟩
    · simp [sNext, ownF, ownD, hby, ne3]
    · simp [sNext, ownG, ownD, hby]

/-- what holds of a machine behind k steps, whatever others do -/
structure SExact (kd f g : Nat) (n X : Int) (k : Nat) (t : SS) : Prop where
  inv : SInv kd f g n (X + 1048576 * k) t
  of : addS f t.L = ownF kd n t
  og : addS g t.L = ownG kd n t
  acc : ∀ a ∈ t.L, (a.w = f ∨ a.w = g) ∧ 1 ≤ a.kind ∧ a.kind ≤ 3 ∧ smallAcc a
  cnt : t.L.length ≤ k
theorem SExact.next {X : Int} {k : Nat} {t : SS} (h : SExact kd f g n X k t) (hX : 0 ≤ X ∧ X ≤ 1099511627776) (hk : k ≤ 1000) : SExact kd f g n X (k + 1) (sNext kd f g n t) := by
  by_cases h7 : t.st = 3
  · rw [sNext_over h7]
    exact ⟨h.inv.more (by omega), h.of, h.og, h.acc, by have := h.cnt; omega⟩
  · have h7' : t.st < 3 := by have := h.inv.nx; omega
    obtain ⟨a, e1, e2, e3, e4, e5, e6, e7⟩ := sOwn_step h.inv h7' (by omega)
    refine ⟨(h.inv.step (by omega)).more (by omega), by rw [e1, addS_snoc, h.of, e2]; omega, by rw [e1, addS_snoc, h.og, e3]; omega, fun x hx => ?_, by rw [e1]; have := h.cnt; simp; omega⟩
    rw [e1] at hx
    rcases List.mem_append.1 hx with hx | hx
    · exact h.acc x hx
    · rw [List.mem_singleton] at hx
      subst hx
      exact ⟨e4, e5, e6, e7⟩
theorem SExact.pokes {X : Int} {k : Nat} {t : SS} (h : SExact kd f g n X k t) (len : Nat) (i : Int) (l : List Pk) (hl : okPokesS f g X l) : SExact kd f g n X k (pokeAll sPk len i l t) := by
  have hp : okPokesS f g (X + 1048576 * k) l := fun p hp e => by have := hl p hp e; omega
  obtain ⟨W', e, _⟩ := sPokeAll_any len i l t
  have h2 := h.inv.pokes len i l hp
  rw [e] at h2 ⊢
  exact ⟨h2, h.of, h.og, h.acc, h.cnt⟩
theorem sPlay_exact (len : Nat) (l : List Pk) {X : Int} (hok : okPokesS f g X l) (hX : 0 ≤ X ∧ X ≤ 1099511627776) {t : SS} (h0 : SExact kd f g n X 0 t) (k : Nat) (hk : k ≤ 1000) :
    SExact kd f g n X (playF (sStp kd f g n) sPk len l k 0 t).2.1 (playF (sStp kd f g n) sPk len l k 0 t).1 := by
  have hle := sPlay_le (kd := kd) (f := f) (g := g) (n := n) len l k 0 t
  refine playF_inv (fun k t => k ≤ 1000 → SExact kd f g n X k t) (fun k t h hk => ?_) (fun k t h hk => ?_) k 0 t (fun _ => h0) (by omega)
  · exact (h hk).pokes len k l hok
  · exact (h (by omega)).next hX (by omega)

/-- a machine at its beginning -/
def sStart (kd : Nat) (W : List Int) : SS := ⟨W, [], if kd = 0 then 2 else 0, 0, false⟩
theorem SExact.start {X : Int} {W : List Int} (h : SInv kd f g n X (sStart kd W)) : SExact kd f g n X 0 (sStart kd W) := by
  refine ⟨h.more (by omega), ?_, ?_, by simp [sStart], by simp [sStart]⟩
  · by_cases e : kd = 0 <;> simp [addS, ownF, sStart, e]
  · by_cases e : kd = 0 <;> simp [addS, ownG, sStart, e]
theorem sStart_lt (kd : Nat) (W : List Int) : (sStart kd W).st < 3 := by
  show (if kd = 0 then 2 else 0) < 3
  split <;> omega
theorem sStart_need (kd : Nat) (W : List Int) : sNeed f (sStart kd W) ≤ 3 := by
  by_cases e : kd = 0 <;> simp [sNeed, sStart, e]
/-- alone -/
theorem sAlone {X : Int} (len : Nat) (W : List Int) (j : Nat) (h : SInv kd f g n X (sStart kd W)) :
    playF (sStp kd f g n) sPk len [] (3 + j) 0 (sStart kd W) =
      if kd = 0 then (⟨W.set g (rd W g + n), [⟨2, g, n, rd W g + n, false⟩], 3, 0, false⟩, 1, true)
      else if sRef kd n (rd W f) = true then (⟨W, [⟨1, f, rd W f, 0, false⟩], 3, rd W f, true⟩, 1, true)
      else (⟨(W.set f (rd W f + sBy kd n)).set g (rd W g + sBy kd n), [⟨1, f, rd W f, 0, false⟩, ⟨3, f, rd W f, rd W f + sBy kd n, true⟩, ⟨2, g, sBy kd n, rd W g + sBy kd n, false⟩], 3, rd W f, false⟩, 3, true) := by
  have hne := h.ne
  rw [show 3 + j = (j + 2) + 1 from by omega, playF_succ, pokeAll_nil]
  by_cases e : kd = 0
  · subst e
    simp [sStp, sNext, sStart, sBy]
  · rw [if_neg e]
    cases c : sRef kd n (rd W f)
    · rw [if_neg (by simp [sStp, sNext, sStart, e, c]), show j + 2 = (j + 1) + 1 from rfl, playF_succ, pokeAll_nil, if_neg (by simp [sStp, sNext, sStart, e, c]), playF_succ, pokeAll_nil]
      simp [sStp, sNext, sStart, e, c, casW, rd_set, Ne.symm hne]
    · simp [sStp, sNext, sStart, e, c]
end
end Go.Proofs.Ytonekdolmbdniaa
