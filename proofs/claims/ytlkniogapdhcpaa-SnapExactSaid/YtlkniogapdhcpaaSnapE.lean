/- A count alone, in plain Lean. -/
import Derived.Test.YtlkniogapdhcpaaSnapM
import Derived.Test.YtlkniogapdhcpaaAddSum
namespace Go.Proofs.Ytlkniogapdhcpaa
open Go.RowKit
set_option linter.unusedVariables false
set_option linter.unusedSimpArgs false
theorem lst_get {s i : Nat} (h : i < s) : (lst s)[i]? = some (4 + i) := by simp [lst, h]
theorem wat_of {b s k v : Nat} (h : (lo s 2)[k]? = some v) : wat b s k = b + v := by simp [wat, wl, h]
theorem wat_0 (b s : Nat) : wat b s 0 = b + 1 := wat_of (by simp [lo])
theorem wat_1 (b s : Nat) : wat b s 1 = b + 2 := wat_of (by simp [lo])
theorem wat_m (b s : Nat) : wat b s (3 + s) = b + 1 := wat_of (by
  show ([1, 2, 0] ++ lst s ++ [1] ++ lst s)[_]? = _
  rw [List.getElem?_append_left (by simp [lst_length]; omega), List.getElem?_append_right (by simp [lst_length]; omega)]
  have e : ([1, 2, 0] ++ lst s).length = 3 + s := by simp [lst_length]; omega
  rw [e, Nat.sub_self]
  rfl)
theorem wat_a {b s i : Nat} (h : i < s) : wat b s (3 + i) = b + (4 + i) := wat_of (by
  show ([1, 2, 0] ++ lst s ++ [1] ++ lst s)[_]? = _
  rw [List.getElem?_append_left (by simp [lst_length]; omega), List.getElem?_append_left (by simp [lst_length]; omega), List.getElem?_append_right (by simp)]
  simp [lst_get h])
theorem wat_b {b s i : Nat} (h : i < s) : wat b s (4 + s + i) = b + (4 + i) := wat_of (by
  show ([1, 2, 0] ++ lst s ++ [1] ++ lst s)[_]? = _
  rw [List.getElem?_append_right (by simp [lst_length]; omega)]
  have e : ([1, 2, 0] ++ lst s ++ [1]).length = 4 + s := by simp [lst_length]; omega
  rw [e, Nat.add_sub_cancel_left]
  exact lst_get h)
/-- what i loads of a try find, if nothing is done meanwhile -/
def gl7 (W : List Int) (b s i : Nat) : List Int := (List.range i).map (fun j => rd W (wat b s j))
theorem gl7_len (W : List Int) (b s i : Nat) : (gl7 W b s i).length = i := by simp [gl7]
theorem gl7_succ (W : List Int) (b s i : Nat) : gl7 W b s (i + 1) = gl7 W b s i ++ [rd W (wat b s i)] := by simp [gl7, List.range_succ]
theorem gl7_rd {W : List Int} {b s i j : Nat} (h : j < i) : rd (gl7 W b s i) j = rd W (wat b s j) := by simp [gl7, rd, h]
theorem gl7_vw {W : List Int} {b s i : Nat} : vw s (gl7 W b s (4 + 2 * s)) 3 i = (if i < s then rd W (b + 4 + i) else 0) ∧ vw s (gl7 W b s (4 + 2 * s)) (4 + s) i = (if i < s then rd W (b + 4 + i) else 0) := by
  unfold vw
  by_cases h : i < s
  · rw [if_pos h, if_pos h, if_pos h, gl7_rd (by omega), gl7_rd (by omega), wat_a h, wat_b h, show b + (4 + i) = b + 4 + i by omega]
    exact ⟨rfl, rfl⟩
  · rw [if_neg h, if_neg h, if_neg h]
    exact ⟨rfl, rfl⟩
theorem gl7_calm (W : List Int) (b s : Nat) : calmB s (gl7 W b s (4 + 2 * s)) = (rd W (b + 1) == rd W (b + 2)) := by
  have hv : viewB s (gl7 W b s (4 + 2 * s)) = true := by
    unfold viewB
    simp only [(gl7_vw (W := W) (b := b) (s := s)).1, (gl7_vw (W := W) (b := b) (s := s)).2]
    simp
  unfold calmB
  rw [hv, gl7_rd (by omega), gl7_rd (by omega), gl7_rd (by omega), wat_0, wat_1, wat_m]
  simp
theorem wrap64_wrap (x : Int) : wrap64 (wrap64 x) = wrap64 x := by unfold wrap64; omega
theorem gl7_sum (W : List Int) (b s : Nat) (hs : 1 ≤ s ∧ s ≤ 8) : gsum s (gl7 W b s (4 + 2 * s)) 8 = sumN W b s := by
  have h1 : ∀ i, i ≤ s → gsum s (gl7 W b s (4 + 2 * s)) i = sumN W b i := by
    intro i
    induction i with
    | zero => intro _; show rd (gl7 W b s (4 + 2 * s)) 2 = rd W b; rw [gl7_rd (by omega), wat_two]
    | succ i ih =>
      intro h
      show wrap64 (gsum s _ i + pVal (vw s _ 3 i)) = wrap64 (sumN W b i + pVal (rd W (b + 4 + i)))
      rw [ih (by omega), gl7_vw.1, if_pos (by omega)]
  have h2 : ∀ d, gsum s (gl7 W b s (4 + 2 * s)) (s + d) = sumN W b s := by
    intro d
    induction d with
    | zero => exact h1 s (Nat.le_refl _)
    | succ d ih =>
      show wrap64 (gsum s _ (s + d) + pVal (vw s _ 3 (s + d))) = _
      rw [ih, gl7_vw.1, if_neg (by omega), show pVal 0 = 0 by unfold pVal wrap32; omega, Int.add_zero]
      obtain ⟨u, rfl⟩ : ∃ u, s = u + 1 := ⟨s - 1, by omega⟩
      show wrap64 (wrap64 (sumN W b u + pVal (rd W (b + 4 + u)))) = wrap64 (sumN W b u + pVal (rd W (b + 4 + u)))
      exact wrap64_wrap _
  have := h2 (8 - s)
  rw [show s + (8 - s) = 8 by omega] at this
  exact this
/-- the rest of a try -/
theorem try_run (W : List Int) (b s len : Nat) : ∀ (d i k m : Nat) (t : SN), t.W = W → t.fin = false → t.got = gl7 W b s i → i + d = 4 + 2 * s → 1 ≤ d → d ≤ k →
    ∃ L', playF (nStp b s) nPk len [] k m t = (if (clN s { t with L := L' } (gl7 W b s (4 + 2 * s))).fin = true then (clN s { t with L := L' } (gl7 W b s (4 + 2 * s)), m + d, true) else playF (nStp b s) nPk len [] (k - d) (m + d) (clN s { t with L := L' } (gl7 W b s (4 + 2 * s)))) := by
  intro d
  induction d with
  | zero => intro i k m t _ _ _ _ h; omega
  | succ d ih =>
    intro i k m t hW hf hg hid _ hk
    obtain ⟨k, rfl⟩ : ∃ k', k = k' + 1 := ⟨k - 1, by omega⟩
    rw [playN_one, show pokeAll nPk len (m : Int) [] t = t from rfl]
    have hgl : t.got.length = i := by rw [hg, gl7_len]
    have hgn : t.got ++ [rd t.W (wat b s t.got.length)] = gl7 W b s (i + 1) := by rw [hgl, hg, hW, gl7_succ]
    by_cases hd : d = 0
    · subst hd
      have e0 : nNext b s t = clN s { t with L := t.L ++ [⟨1, (wat b s t.got.length : Nat), rd t.W (wat b s t.got.length), 0, false⟩] } (gl7 W b s (4 + 2 * s)) := by
        unfold nNext
        rw [if_neg (by rw [hf]; decide), if_pos (by omega), hgn, show i + 1 = 4 + 2 * s by omega]
      refine ⟨t.L ++ [⟨1, (wat b s t.got.length : Nat), rd t.W (wat b s t.got.length), 0, false⟩], ?_⟩
      show (if (nNext b s t).fin = true then (nNext b s t, m + 1, true) else playF (nStp b s) nPk len [] k (m + 1) (nNext b s t)) = _
      rw [e0]
      rfl
    · have e0 : nNext b s t = { t with L := t.L ++ [⟨1, (wat b s t.got.length : Nat), rd t.W (wat b s t.got.length), 0, false⟩], got := gl7 W b s (i + 1) } := by
        unfold nNext
        rw [if_neg (by rw [hf]; decide), if_neg (by omega), hgn]
      have e1 : (nStp b s t).2 = false := by show (nNext b s t).fin = false; rw [e0]; exact hf
      have e2 : (nStp b s t).1 = _ := e0
      rw [e1, if_neg (by decide), e2]
      obtain ⟨L', h⟩ := ih (i + 1) k (m + 1) { t with L := t.L ++ [⟨1, (wat b s t.got.length : Nat), rd t.W (wat b s t.got.length), 0, false⟩], got := gl7 W b s (i + 1) } hW hf rfl (by omega) (by omega) (by omega)
      refine ⟨L', ?_⟩
      rw [h, show k + 1 - (d + 1) = k - d by omega, show m + 1 + d = m + (d + 1) by omega]
      have e3 : clN s { ({ t with L := t.L ++ [⟨1, (wat b s t.got.length : Nat), rd t.W (wat b s t.got.length), 0, false⟩], got := gl7 W b s (i + 1) } : SN) with L := L' } (gl7 W b s (4 + 2 * s)) = clN s { t with L := L' } (gl7 W b s (4 + 2 * s)) := by
        unfold clN
        split
        · rfl
        · split <;> rfl
      rw [e3]
/-- a count of a calm counter, alone -/
theorem calm_run (W : List Int) (b s r k len : Nat) (L : List Acc) (hs : 1 ≤ s ∧ s ≤ 8) (h1 : rd W (b + 1) = rd W (b + 2)) (hk : 4 + 2 * s ≤ k) : ∃ t, playF (nStp b s) nPk len [] k 0 ⟨W, L, (r : Int), [], 0, false, false⟩ = (t, 4 + 2 * s, true) ∧ t.W = W ∧ t.n = sumN W b s ∧ t.ex = true := by
  obtain ⟨L', h⟩ := try_run W b s len (4 + 2 * s) 0 k 0 ⟨W, L, (r : Int), [], 0, false, false⟩ rfl rfl rfl (by omega) (by omega) hk
  have hc : calmB s (gl7 W b s (4 + 2 * s)) = true := by rw [gl7_calm, h1]; simp
  have e : clN s ({ (⟨W, L, (r : Int), [], 0, false, false⟩ : SN) with L := L' }) (gl7 W b s (4 + 2 * s)) = ⟨W, L', (r : Int) - 1, gl7 W b s (4 + 2 * s), gsum s (gl7 W b s (4 + 2 * s)) 8, true, true⟩ := by unfold clN; rw [if_pos hc]
  rw [e, if_pos rfl] at h
  exact ⟨_, by rw [h, Nat.zero_add], rfl, gl7_sum W b s hs, rfl⟩
/-- a count of one that is not, alone -/
theorem busy_run (W : List Int) (b s len : Nat) (h1 : rd W (b + 1) ≠ rd W (b + 2)) : ∀ (r k m : Nat) (L : List Acc), 1 ≤ r → r * (4 + 2 * s) ≤ k → ∃ t, playF (nStp b s) nPk len [] k m ⟨W, L, (r : Int), [], 0, false, false⟩ = (t, m + r * (4 + 2 * s), true) ∧ t.W = W ∧ t.n = rd W b ∧ t.ex = false := by
  intro r
  induction r with
  | zero => intro k m L h; omega
  | succ r ih =>
    intro k m L _ hk
    rw [Nat.add_mul, Nat.one_mul] at hk
    obtain ⟨L', h⟩ := try_run W b s len (4 + 2 * s) 0 k m ⟨W, L, ((r + 1 : Nat) : Int), [], 0, false, false⟩ rfl rfl rfl (by omega) (by omega) (by omega)
    have hc : ¬ calmB s (gl7 W b s (4 + 2 * s)) = true := by rw [gl7_calm]; simpa using h1
    by_cases hr : r = 0
    · subst hr
      have e : clN s ({ (⟨W, L, ((0 + 1 : Nat) : Int), [], 0, false, false⟩ : SN) with L := L' }) (gl7 W b s (4 + 2 * s)) = ⟨W, L', ((0 + 1 : Nat) : Int) - 1, gl7 W b s (4 + 2 * s), rd (gl7 W b s (4 + 2 * s)) 2, false, true⟩ := by unfold clN; rw [if_neg hc, if_pos (by show ((0 + 1 : Nat) : Int) - 1 = 0; omega)]
      rw [e, if_pos rfl] at h
      refine ⟨_, by rw [h, show (0 + 1) * (4 + 2 * s) = 4 + 2 * s by omega], rfl, ?_, rfl⟩
      show rd (gl7 W b s (4 + 2 * s)) 2 = _
      rw [gl7_rd (by omega), wat_two]
    · have e : clN s ({ (⟨W, L, ((r + 1 : Nat) : Int), [], 0, false, false⟩ : SN) with L := L' }) (gl7 W b s (4 + 2 * s)) = ⟨W, L', (r : Int), [], 0, false, false⟩ := by
        unfold clN
        rw [if_neg hc, if_neg (by show ¬ ((r + 1 : Nat) : Int) - 1 = 0; omega)]
        show (⟨W, L', ((r + 1 : Nat) : Int) - 1, [], 0, false, false⟩ : SN) = _
        rw [show ((r + 1 : Nat) : Int) - 1 = (r : Int) by omega]
      rw [e, if_neg (show ¬ false = true by decide)] at h
      obtain ⟨t, h2, h3⟩ := ih (k - (4 + 2 * s)) (m + (4 + 2 * s)) L' (by omega) (by omega)
      refine ⟨t, ?_, h3⟩
      rw [h, h2, Nat.add_mul, Nat.one_mul, show m + (4 + 2 * s) + r * (4 + 2 * s) = m + (r * (4 + 2 * s) + (4 + 2 * s)) by omega]
theorem calm7 (W : List Int) (b s r k len : Nat) (hs : 1 ≤ s ∧ s ≤ 8) (hr : 1 ≤ r) (hk : r * (4 + 2 * s) ≤ k) : ∃ t n, playF (nStp b s) nPk len [] k 0 ⟨W, [], (r : Int), [], 0, false, false⟩ = (t, n, true) ∧ t.W = W ∧ (rd W (b + 1) = rd W (b + 2) → n = 4 + 2 * s ∧ t.n = sumN W b s ∧ t.ex = true) ∧ (rd W (b + 1) ≠ rd W (b + 2) → n = r * (4 + 2 * s) ∧ t.n = rd W b ∧ t.ex = false) := by
  by_cases h : rd W (b + 1) = rd W (b + 2)
  · have hk' : 4 + 2 * s ≤ k := Nat.le_trans (by have := Nat.mul_le_mul hr (Nat.le_refl (4 + 2 * s)); omega) hk
    obtain ⟨t, h1, h2, h3, h4⟩ := calm_run W b s r k len [] hs h hk'
    exact ⟨t, _, h1, h2, fun _ => ⟨rfl, h3, h4⟩, fun e => absurd h e⟩
  · obtain ⟨t, h1, h2, h3, h4⟩ := busy_run W b s len h r k 0 [] hr hk
    exact ⟨t, _, h1, h2, fun e => absurd e h, fun _ => ⟨Nat.zero_add _, h3, h4⟩⟩
end Go.Proofs.Ytlkniogapdhcpaa
