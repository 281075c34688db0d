/- What a count loads, in plain Lean, whatever others do. -/
import Derived.Test.YtlkniogapdhcpaaSnapCC
namespace Go.Proofs.Ytlkniogapdhcpaa
open Go.RowKit
set_option linter.unusedVariables false
set_option linter.unusedSimpArgs false
theorem nPlay_inv (P : SN → Prop) (stp : SN → SN × Bool) (hp : ∀ (t : SN) W', W'.length = t.W.length → P t → P { t with W := W' }) (hs : ∀ t, P t → P (stp t).1) (len : Nat) (l : List Pk) : ∀ (k m : Nat) (t : SN), P t → P (playF stp nPk len l k m t).1 := by
  intro k
  induction k with
  | zero => intro m t h; exact h
  | succ k ih =>
    intro m t h
    obtain ⟨W', e, hl⟩ := nPoke_any len m l t
    rw [playN_one, e]
    have h1 := hs _ (hp t W' hl h)
    split
    · exact h1
    · exact ih (m + 1) _ h1
theorem wat_two (b s : Nat) : wat b s 2 = b := by simp [wat, wl, lo]
theorem rd_app {g : List Int} {v : Int} {i : Nat} (h : i < g.length) : rd (g ++ [v]) i = rd g i := by simp [rd, List.getElem?_append_left h]
theorem rd_last {g : List Int} {v : Int} {i : Nat} (h : i = g.length) : rd (g ++ [v]) i = v := by subst h; simp [rd]
/-- what holds of a count's log -/
structure LdI (b s r : Nat) (t : SN) : Prop where
  s1 : 1 ≤ s
  all : ∀ e ∈ t.L, e.kind = 1 ∧ (b : Int) ≤ e.w ∧ e.w < (b : Int) + 4 + s
  go : t.fin = false → ∃ j : Nat, t.left = (r : Int) - j ∧ j < r ∧ t.L.length = j * (4 + 2 * s) + t.got.length ∧ t.got.length < 4 + 2 * s ∧ (3 ≤ t.got.length → ∃ e ∈ t.L, e.w = (b : Int) ∧ e.a = rd t.got 2)
  fi : t.fin = true → ∃ j : Nat, 1 ≤ j ∧ j ≤ r ∧ t.L.length = j * (4 + 2 * s) ∧ (t.ex = true ∨ (j = r ∧ ∃ e ∈ t.L, e.w = (b : Int) ∧ e.a = t.n))
theorem LdI.start {b s r : Nat} {W : List Int} (hs : 1 ≤ s) (hr : 1 ≤ r) : LdI b s r ⟨W, [], (r : Int), [], 0, false, false⟩ :=
  ⟨hs, fun e h => (by cases h), fun _ => ⟨0, by show (r : Int) = r - ((0 : Nat) : Int); omega, hr, by simp, by show 0 < 4 + 2 * s; omega, fun h => absurd h (by show ¬ 3 ≤ 0; omega)⟩, fun h => (by cases h)⟩
theorem LdI.step {b s r : Nat} {t : SN} (h : LdI b s r t) : LdI b s r (nNext b s t) := by
  cases hf : t.fin with
  | true => rw [nNext_over hf]; exact h
  | false =>
    obtain ⟨j, hl, hj, hL, hg, he⟩ := h.go hf
    have hLL := nNext_L (b := b) (s := s) hf
    have hw := wat_bd (b := b) h.s1 hg
    have hall : ∀ e ∈ (nNext b s t).L, e.kind = 1 ∧ (b : Int) ≤ e.w ∧ e.w < (b : Int) + 4 + s := by
      rw [hLL]
      intro e hm
      rcases List.mem_append.1 hm with h1 | h1
      · exact h.all e h1
      · rw [List.mem_singleton] at h1
        subst h1
        exact ⟨rfl, by show (b : Int) ≤ ((wat b s t.got.length : Nat) : Int); omega, by show ((wat b s t.got.length : Nat) : Int) < _; omega⟩
    have hlen : (nNext b s t).L.length = t.L.length + 1 := by rw [hLL]; simp
    have hex : ∀ v : Int, v = rd t.W (wat b s t.got.length) → 3 ≤ t.got.length + 1 → ∃ e ∈ (nNext b s t).L, e.w = (b : Int) ∧ e.a = rd (t.got ++ [v]) 2 := by
      intro v hv h3
      rw [hLL]
      by_cases h2 : t.got.length = 2
      · refine ⟨_, List.mem_append_right _ (List.mem_singleton.2 rfl), ?_, ?_⟩
        · show ((wat b s t.got.length : Nat) : Int) = b
          rw [h2, wat_two]
        · show rd t.W (wat b s t.got.length) = _
          rw [rd_last h2.symm, hv]
      · obtain ⟨e, he1, he2, he3⟩ := he (by omega)
        exact ⟨e, List.mem_append_left _ he1, he2, by rw [he3, rd_app (by omega)]⟩
    by_cases hfull : t.got.length + 1 = 4 + 2 * s
    · have e0 : nNext b s t = clN s { t with L := t.L ++ [⟨1, (wat b s t.got.length : Nat), rd t.W (wat b s t.got.length), 0, false⟩] } (t.got ++ [rd t.W (wat b s t.got.length)]) := by unfold nNext; rw [if_neg (by rw [hf]; decide), if_pos hfull]
      have hx := hex _ rfl (by omega)
      have hln2 : (nNext b s t).L.length = (j + 1) * (4 + 2 * s) := by rw [hlen, hL, Nat.add_mul, Nat.one_mul]; omega
      refine ⟨h.s1, hall, ?_, ?_⟩
      · rw [e0] at hln2 ⊢
        unfold clN at hln2 ⊢
        split at hln2
        · rename_i hc; rw [if_pos hc]; intro e; cases e
        · rename_i hc
          rw [if_neg hc]
          split at hln2
          · rename_i hl0; rw [if_pos hl0]; intro e; cases e
          · rename_i hl0
            rw [if_neg hl0]
            have hl0' : ¬ t.left - 1 = 0 := hl0
            intro _
            exact ⟨j + 1, by show t.left - 1 = (r : Int) - ((j + 1 : Nat) : Int); omega, by omega, by rw [hln2]; simp, by show 0 < 4 + 2 * s; omega, fun h3 => absurd h3 (by show ¬ 3 ≤ 0; omega)⟩
      · rw [e0] at hln2 hx ⊢
        unfold clN at hln2 hx ⊢
        split at hln2
        · rename_i hc
          rw [if_pos hc] at hx ⊢
          intro _
          exact ⟨j + 1, by omega, by omega, hln2, Or.inl rfl⟩
        · rename_i hc
          rw [if_neg hc] at hx ⊢
          split at hln2
          · rename_i hl0
            rw [if_pos hl0] at hx ⊢
            have hl0' : t.left - 1 = 0 := hl0
            intro _
            exact ⟨j + 1, by omega, by omega, hln2, Or.inr ⟨by omega, hx⟩⟩
          · rename_i hl0
            rw [if_neg hl0]
            intro e
            have e' : t.fin = true := e
            rw [hf] at e'
            cases e'
    · have e0 : nNext b s t = { t with L := t.L ++ [⟨1, (wat b s t.got.length : Nat), rd t.W (wat b s t.got.length), 0, false⟩], got := t.got ++ [rd t.W (wat b s t.got.length)] } := by unfold nNext; rw [if_neg (by rw [hf]; decide), if_neg hfull]
      have hx := hex _ rfl
      refine ⟨h.s1, hall, fun _ => ⟨j, by rw [e0]; exact hl, hj, ?_, ?_, ?_⟩, fun e => ?_⟩
      · rw [hlen, hL, e0]
        show _ = j * (4 + 2 * s) + (t.got ++ [rd t.W (wat b s t.got.length)]).length
        rw [List.length_append, List.length_singleton]
        omega
      · rw [e0]
        show (t.got ++ [rd t.W (wat b s t.got.length)]).length < _
        rw [List.length_append, List.length_singleton]
        omega
      · intro h3
        have e1 : (nNext b s t).got = t.got ++ [rd t.W (wat b s t.got.length)] := by rw [e0]
        rw [e1] at h3 ⊢
        rw [List.length_append, List.length_singleton] at h3
        exact hx h3
      · rw [e0] at e
        have e' : t.fin = true := e
        rw [hf] at e'
        cases e'
theorem nLoads (b s r len : Nat) (l : List Pk) (W : List Int) (k : Nat) (hs : 1 ≤ s) (hr : 1 ≤ r) : LdI b s r (playF (nStp b s) nPk len l k 0 ⟨W, [], (r : Int), [], 0, false, false⟩).1 :=
  nPlay_inv (LdI b s r) (nStp b s) (fun t W' _ h => ⟨h.s1, h.all, h.go, h.fi⟩) (fun t h => h.step) len l k 0 _ (LdI.start hs hr)
/-- behind a play that may be long enough -/
structure Loads (b s r : Nat) (t : SN) (n : Nat) : Prop where
  all : ∀ i (h : i < t.L.length), t.L[i].kind = 1 ∧ (b : Int) ≤ t.L[i].w ∧ t.L[i].w < (b : Int) + 4 + s
  len : t.L.length = n
  tries : ∃ j : Nat, 1 ≤ j ∧ j ≤ r ∧ n = j * (4 + 2 * s) ∧ (t.ex = true ∨ (j = r ∧ ∃ i, ∃ h : i < t.L.length, t.L[i].w = (b : Int) ∧ t.L[i].a = t.n))
theorem loads_of {b s r : Nat} {t : SN} {n : Nat} {pb : Bool} {t0 : SN} (h0 : t0.L = []) (hI : LdI b s r t) (hp : NPlay 0 1000 t0 (t, n, pb)) (hs : s ≤ 8) (hr : r ≤ 8) : pb = true ∧ Loads b s r t n := by
  have hl := hp.log
  rw [h0] at hl
  simp only [List.length_nil, Nat.zero_add, Nat.add_zero] at hl
  have hb : pb = true := by
    cases pb with
    | true => rfl
    | false =>
      obtain ⟨hf, hn⟩ := hp.not rfl
      obtain ⟨j, _, hj, hL, hg, _⟩ := hI.go hf
      have h1 : (j + 1) * (4 + 2 * s) ≤ 8 * 20 := Nat.mul_le_mul (by omega) (by omega)
      rw [Nat.add_mul, Nat.one_mul] at h1
      simp only at hn hf hL
      omega
  subst hb
  have hf : t.fin = true := hp.told rfl
  obtain ⟨j, h1, h2, h3, h4⟩ := hI.fi hf
  refine ⟨rfl, fun i h => hI.all _ (List.getElem_mem h), hl, j, h1, h2, by omega, ?_⟩
  rcases h4 with h4 | ⟨h4, e, he, h5⟩
  · exact Or.inl h4
  · obtain ⟨i, hi, rfl⟩ := List.getElem_of_mem he
    exact Or.inr ⟨h4, i, hi, h5⟩
end Go.Proofs.Ytlkniogapdhcpaa
