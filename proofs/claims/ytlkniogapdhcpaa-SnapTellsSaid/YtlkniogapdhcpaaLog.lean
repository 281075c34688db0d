/- mem.Log, SameLog: the accesses. -/
import Derived.Test.YtlkniogapdhcpaaSame
import Derived.Test.YtlkniogapdhcpaaMemC
import Derived.Deep.RegionLaw
namespace Go.Proofs.Ytlkniogapdhcpaa
open Go.RowKit
set_option linter.unusedVariables false
set_option linter.unusedSimpArgs false

def AccsAt (w : World) (A : Option Addr) (L : List Acc) : Prop := L = [] ∨ ∃ b o, A = some ⟨b, o, none⟩ ∧ ∀ i u, (accs L)[i]? = some u → w.cell? ⟨b, o + i, none⟩ = some u
theorem AccsAt.keep {w w' : World} {A : Option Addr} {L : List Acc} (h : AccsAt w A L) (hk : Keep0 w w') : AccsAt w' A L := by
  rcases h with h | ⟨b, o, e1, h⟩
  · exact Or.inl h
  · refine Or.inr ⟨b, o, e1, fun i u hu => ?_⟩
    rw [cell_old hk (World.block_lt_of_cell? _ _ (h i u hu)) (fun x => x)]
    exact h i u hu
theorem AccsAt.cell {w : World} {A : Option Addr} {L : List Acc} (h : AccsAt w A L) (hl : 0 < L.length) : ∃ b o, A = some ⟨b, o, none⟩ ∧ ∀ i u, (accs L)[i]? = some u → w.cell? ⟨b, o + i, none⟩ = some u := by
  rcases h with rfl | h
  · simp at hl
  · exact h
theorem accs_length (L : List Acc) : (accs L).length = L.length * 5 := by
  induction L with
  | nil => rfl
  | cons x L ih => rw [show accs (x :: L) = x.cells ++ accs L from rfl, List.length_append, ih, List.length_cons]; simp [Acc.cells]; omega
theorem accs_get (L : List Acc) (i : Nat) (h : i < L.length) (f : Nat) (hf : f < 5) : (accs L)[i * 5 + f]? = L[i].cells[f]? := by
  induction L generalizing i with
  | nil => simp at h
  | cons x L ih =>
    rw [show accs (x :: L) = x.cells ++ accs L from rfl]
    cases i with
    | zero => rw [List.getElem?_append_left (by simp [Acc.cells]; omega)]; simp
    | succ i =>
      rw [List.getElem?_append_right (by simp [Acc.cells]; omega), ← show (accs L)[i * 5 + f]? = (x :: L)[i + 1].cells[f]? from by simpa using ih i (by simpa using h)]
      congr 1
      simp [Acc.cells]; omega
theorem accs_one (L : List Acc) : ∀ u ∈ accs L, u.oneCell' = true := by
  intro u hu
  simp only [accs, List.mem_flatMap, Acc.cells] at hu
  obtain ⟨x, _, hx⟩ := hu
  simp at hx
  rcases hx with rfl | rfl | rfl | rfl | rfl <;> rfl
theorem accs_of_row {w : World} {B : Nat} {A : Option Addr} {n c : Nat} {L : List Acc} (h : w.ownsRow B 42 5 (.slice A n c) n (accs L)) (hn : n = L.length) : AccsAt w A L := by
  rcases h.2 with ⟨e, h0⟩ | ⟨g, cap, cur, e, _, _, _⟩
  · left; rw [h0] at hn; exact List.eq_nil_of_length_eq_zero hn.symm
  · cases e
    refine Or.inr ⟨g, 0, rfl, fun i u hu => ?_⟩
    have := h.cells (g := g) rfl i u hu
    rw [addr_add] at this
    rwa [Nat.zero_add]

set_option maxHeartbeats 1000000 in
theorem clone_accs (B : Nat) (w : World) (lv : Value) (L : List Acc) (h : w.ownsRow B 42 5 lv L.length (accs L)) (hL : L.length ≤ 1000000000) :
    Calls Try.prog 33 #[lv] w fun e w' =>
      ∃ A c', e = .returned (.slice A L.length c') ∧ AccsAt w' A L ∧ Keep (fun _ => False) w w' := by
  rcases h.2 with ⟨e, h0⟩ | ⟨g, cap, cur, e, _, _, _⟩
  · subst e
    have hl : L = [] := List.eq_nil_of_length_eq_zero h0
    subst hl
    clear h
    go_enter Try.func33, Try.ntmps33
    go_wp2
    go_ret
    exact ⟨none, 0, rfl, Or.inl rfl, Keep.refl _ _⟩
  · subst e
    have hc := h.cells (g := g) rfl
    obtain ⟨i0, hti, hz0, hz1, hz2⟩ := info_parts info_acc
    have HI := hid hti
    have HC := hid hc
    clear hti hc h
    go_enter Try.func33, Try.ntmps33
    go_wp2_with (at_builtin; refine wpl_append_own ?a1 (.tmp 5) (.tmp 6) 39 ?a2 (w.heap.size) 42 i0 ?z 5 40 ?a3 ?a4 ?a5 ?a6 ?a7 ?a8 ?a9 (.slice (some ⟨w.heap.size, 0, none⟩) 0 0) (0) ([]) ?a10 ?hown (⟨g, 0, none⟩) (L.length) (cap) (accs L) ?a11 ?a12 ?hnews ?hone ?h63 ?hby ?hbase ?_; (case a1 => rfl); (case a2 => rfl); (case a3 => exact Try.underlying39); (case a4 => exact HI.out); (case a5 => exact hz0); (case a6 => exact hz1); (case a7 => exact hz2); (case a8 => rfl); (case a9 => decide); (case a10 => rfl); (case a11 => rfl); (case a12 => exact accs_length L); (case hown => exact World.ownsRow_made w #[] 0 (Nat.le_refl _) (by unfold maxLen; omega) (by simp)); (case h63 => unfold maxLen; omega); (case hby => omega); (case hnews => intro j u hj; have hc := HC.out j u hj; rw [World.cell?_alloc_lt _ _ _ (World.block_lt_of_cell? _ _ hc)]; exact hc); (case hone => exact accs_one L); (case hbase => simp); intro A c' w3 hown3 hg3 hsl3; have HW := hid hown3; have HG := hid hg3; have HS := hid hsl3; clear hown3 hg3 hsl3)
    have h0 := HW.out
    simp only [Nat.zero_add, List.nil_append] at h0
    go_ret
    exact ⟨_, _, rfl, accs_of_row h0 rfl, Keep.grown ((Keep.refl _ w).alloc _) HG.out (fun k hk e => by simp [Value.ownBlock] at e; omega)⟩

section
variable {B : Nat} {w : World} {m a : Nat} {lv : Value} {W : List Int} {L : List Acc}
set_option maxHeartbeats 400000 in
theorem mem_Log (hm : MemAt B w m a lv W L) (hL : L.length ≤ 1000000000) :
    Calls Try.prog 15 #[ptr m] w fun e w' => ∃ A c', e = .returned (.slice A L.length c') ∧ AccsAt w' A L ∧ Keep (fun _ => False) w w' := by
  have hms := hm.mem.k2
  have H := clone_accs B w lv L hm.log hL
  have HH := hid H
  clear hm H
  go_enter Try.func15, Try.ntmps15
  go_wp2_with fail
  refine HH.out.mono ?_
  rintro e w' ⟨A, c', rfl, hp⟩
  have HP := hid hp
  clear hp
  go_wp2_with fail
  go_ret
  exact ⟨A, c', rfl, HP.out⟩
end

set_option maxHeartbeats 1000000 in
theorem same_log (A C : Option Addr) (L : List Acc) (c1 c2 : Nat) (w : World) (hA : AccsAt w A L) (hC : AccsAt w C L) (hl : L.length ≤ 1000000000) :
    Calls Try.prog 21 #[.slice A L.length c1, .slice C L.length c2] w (Ret (.bool true) w) := by
  have HA := hid hA
  have HC := hid hC
  clear hA hC
  go_enter Try.func21, Try.ntmps21
  go_wp2_with fail
  go_loopw [5] (fun v wr => ∃ i : Nat, i ≤ L.length ∧ v = .int .i64 i ∧ Keep0 w wr) (fun v _ => L.length - (intOf v).toNat)
  case atStart => exact ⟨0, Nat.zero_le _, rfl, Keep.refl _ _⟩
  case round =>
    obtain ⟨i, hi, rfl, hk⟩ := hrel
    have HK := hid hk
    clear hk
    by_cases hlt : i < L.length
    · obtain ⟨b1, o1, rfl, hc1⟩ := (HA.out.keep HK.out).cell (by omega)
      obtain ⟨b2, o2, rfl, hc2⟩ := (HC.out.keep HK.out).cell (by omega)
      obtain ⟨xk, xw, xa, xb, xo, hx⟩ : ∃ xk xw xa xb xo, L[i] = ⟨xk, xw, xa, xb, xo⟩ := ⟨_, _, _, _, _, rfl⟩
      have p10 : wr.cell? ⟨b1, o1 + i * 5, none⟩ = some (i64 xk) := by have h := hc1 (i * 5 + 0) (i64 xk) (by rw [accs_get L i hlt 0 (by omega), hx]; rfl); simpa [Nat.add_assoc] using h
      have p11 : wr.cell? ⟨b1, o1 + i * 5 + 1, none⟩ = some (i64 xw) := by have h := hc1 (i * 5 + 1) (i64 xw) (by rw [accs_get L i hlt 1 (by omega), hx]; rfl); simpa [Nat.add_assoc] using h
      have p12 : wr.cell? ⟨b1, o1 + i * 5 + 2, none⟩ = some (i64 xa) := by have h := hc1 (i * 5 + 2) (i64 xa) (by rw [accs_get L i hlt 2 (by omega), hx]; rfl); simpa [Nat.add_assoc] using h
      have p13 : wr.cell? ⟨b1, o1 + i * 5 + 3, none⟩ = some (i64 xb) := by have h := hc1 (i * 5 + 3) (i64 xb) (by rw [accs_get L i hlt 3 (by omega), hx]; rfl); simpa [Nat.add_assoc] using h
      have p14 : wr.cell? ⟨b1, o1 + i * 5 + 4, none⟩ = some (.bool xo) := by have h := hc1 (i * 5 + 4) (.bool xo) (by rw [accs_get L i hlt 4 (by omega), hx]; rfl); simpa [Nat.add_assoc] using h
      have p20 : wr.cell? ⟨b2, o2 + i * 5, none⟩ = some (i64 xk) := by have h := hc2 (i * 5 + 0) (i64 xk) (by rw [accs_get L i hlt 0 (by omega), hx]; rfl); simpa [Nat.add_assoc] using h
      have p21 : wr.cell? ⟨b2, o2 + i * 5 + 1, none⟩ = some (i64 xw) := by have h := hc2 (i * 5 + 1) (i64 xw) (by rw [accs_get L i hlt 1 (by omega), hx]; rfl); simpa [Nat.add_assoc] using h
      have p22 : wr.cell? ⟨b2, o2 + i * 5 + 2, none⟩ = some (i64 xa) := by have h := hc2 (i * 5 + 2) (i64 xa) (by rw [accs_get L i hlt 2 (by omega), hx]; rfl); simpa [Nat.add_assoc] using h
      have p23 : wr.cell? ⟨b2, o2 + i * 5 + 3, none⟩ = some (i64 xb) := by have h := hc2 (i * 5 + 3) (i64 xb) (by rw [accs_get L i hlt 3 (by omega), hx]; rfl); simpa [Nat.add_assoc] using h
      have p24 : wr.cell? ⟨b2, o2 + i * 5 + 4, none⟩ = some (.bool xo) := by have h := hc2 (i * 5 + 4) (.bool xo) (by rw [accs_get L i hlt 4 (by omega), hx]; rfl); simpa [Nat.add_assoc] using h
      have z1 := World.block_lt_of_cell? _ _ p10
      have z2 := World.block_lt_of_cell? _ _ p20
      simp only at z1 z2
      clear hc1 hc2 hx
      go_wp2_with fail
      go_region
      go_wp2_with fail
      go_roundw
      case rel => exact ⟨i + 1, by omega, by go_num, by repeat (with_reducible first | exact Keep.refl _ _ | exact HK.out | apply Keep.alloc | apply Keep.drewN | apply Keep.drew)⟩
      case measure => simp [intOf]; omega
    · go_wp2_with fail
      go_ret
      exact ⟨rfl, HK.out⟩
end Go.Proofs.Ytlkniogapdhcpaa
