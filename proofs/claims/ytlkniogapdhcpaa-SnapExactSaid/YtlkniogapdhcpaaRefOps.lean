/- The reference memory's accesses. -/
import Derived.Test.YtlkniogapdhcpaaRefMem
import Derived.Deep.RegionLaw
namespace Go.Proofs.Ytlkniogapdhcpaa
open Go.RowKit
set_option linter.unusedVariables false
set_option linter.unusedSimpArgs false

theorem own_own_ne {w : World} {B1 B2 : Nat} {e1 e2 : TypeId} {s1 s2 : Nat} {v1 v2 : Value} {n1 n2 : Nat} {x1 x2 : List Value} (h1 : w.ownsRow B1 e1 s1 v1 n1 x1) (h2 : w.ownsRow B2 e2 s2 v2 n2 x2) (he : e1 ≠ e2) : ∀ k, v1.ownBlock = some k → v2.ownBlock ≠ some k := by
  intro k hk hk2
  rcases h1.2 with ⟨rfl, _⟩ | ⟨g1, c1, u1, rfl, _, hg1, _⟩
  · simp [Value.ownBlock] at hk
  · rcases h2.2 with ⟨rfl, _⟩ | ⟨g2, c2, u2, rfl, _, hg2, _⟩
    · simp [Value.ownBlock] at hk2
    · simp [Value.ownBlock] at hk hk2
      subst hk hk2
      rw [hg1] at hg2
      simp at hg2
      exact he hg2.2
theorem opt_ne' {a b : Option Nat} (h : ∀ k, a = some k → b ≠ some k) : b = none ∨ b ≠ a := by
  cases b with
  | none => exact Or.inl rfl
  | some y => exact Or.inr (fun e => h y e.symm rfl)

/-- what an operation leaves of a reference Mem -/
def RefPost (B : Nat) (w : World) (m : Nat) (A : Option Addr) (lv : Value) (W' : List Int) (L' : List Acc) (w' : World) : Prop :=
  ∃ A' c' lv', RefAt B w' m A' c' lv' W' L' ∧ Keep (fun k => k = m ∨ lv.ownBlock = some k) w w' ∧ (∀ k, (Value.slice A' 0 0).ownBlock = some k → (Value.slice A 0 0).ownBlock = some k ∨ w.heap.size ≤ k) ∧ (∀ k, lv'.ownBlock = some k → lv.ownBlock = some k ∨ w.heap.size ≤ k)

section
variable {B : Nat} {w : World} {m : Nat} {A : Option Addr} {c : Nat} {lv : Value} {W : List Int} {L : List Acc}
theorem RefPost.before {w1 w' : World} {W' : List Int} {L' : List Acc} (h : RefPost B w1 m A lv W' L' w') (hk : Keep0 w w1) : RefPost B w m A lv W' L' w' := by
  obtain ⟨A', c', lv', h1, h2, h3, h4⟩ := h
  exact ⟨A', c', lv', h1, (hk.to (S := fun k => k = m ∨ lv.ownBlock = some k)).trans h2 (fun _ _ h => h), fun k hkk => (h3 k hkk).imp id (fun h => Nat.le_trans hk.size h), fun k hkk => (h4 k hkk).imp id (fun h => Nat.le_trans hk.size h)⟩

set_option maxHeartbeats 2000000 in
set_option maxRecDepth 100000 in
theorem ref_log (x : Acc) (hm : RefAt B w m A c lv W L) (hL : L.length ≤ 1000000000) :
    Calls Try.prog 56 #[ptr m, .agg #[i64 x.kind, i64 x.w, i64 x.a, i64 x.b, .bool x.ok]] w fun e w' => e = .returned (.tuple #[]) ∧ RefPost B w m A lv W (L ++ [x]) w' := by
  obtain ⟨xk, xi, xa, xb, xo⟩ := x
  obtain ⟨i0, hti, hz0, hz1, hz2⟩ := info_parts info_acc
  have HI := hid hti
  clear hti
  have HM := hid hm
  clear hm
  go_enter Try.func56, Try.ntmps56
  go_wp2_with fail
  have HK2 : Hid (Keep0 w (w.alloc (.cells #[i64 xk, i64 xi, i64 xa, i64 xb, .bool xo] 42))) := hid ((Keep.refl _ _).alloc _)
  have HX2 : Hid (Blk (w.alloc (.cells #[i64 xk, i64 xi, i64 xa, i64 xb, .bool xo] 42)) w.heap.size 42 [i64 xk, i64 xi, i64 xa, i64 xb, .bool xo]) := hid (Blk.made rfl rfl)
  generalize w.alloc (.cells #[i64 xk, i64 xi, i64 xa, i64 xb, .bool xo] 42) = w2 at *
  have hm2 := HM.out.keep HK2.out (fun _ _ h => h)
  have HR2 := hid hm2
  have HM2 := hid hm2.mem
  have HL2 := hid hm2.log
  have HB2 := hid hm2.base
  have q2 := hm2.mem.k2
  have qx := HX2.out.k5
  clear hm2
  go_region_law (refine step_append_own ?a1 (.tmp 8) (.tmp 10) 39 ?a2 (B) 42 i0 ?z 5 40 ?a3 ?a4 ?a5 ?a6 ?a7 ?a8 ?a9 (lv) (L.length) (accs L) ?a10 ?hown (⟨w2.heap.size, 0, none⟩) (1) (1) (Acc.cells ⟨xk, xi, xa, xb, xo⟩) ?a11 ?a12 ?hnews ?hone ?h63 ?hby ?hbase ?_; (case a1 => rfl); (case a2 => rfl); (case a3 => exact Try.underlying39); (case a4 => exact HI.out); (case a5 => exact hz0); (case a6 => exact hz1); (case a7 => exact hz2); (case a8 => rfl); (case a9 => decide); (case a10 => rfl); (case a11 => rfl); (case a12 => rfl); (case hown => exact ownsRow_keep (S := fun _ => False) HL2.out (by repeat (first | exact Keep.refl _ _ | apply Keep.drew | apply Keep.alloc)) (fun _ _ h => h)); (case h63 => unfold maxLen; omega); (case hby => omega); (case hnews => exact news_at (by repeat (first | exact Blk.made (w := w2) (t := 42) (c := #[i64 xk, i64 xi, i64 xa, i64 xb, .bool xo]) rfl rfl | apply Blk.drew))); (case hone => simp [Acc.cells, Value.oneCell']); (case hbase => have := HB2.out; simp; omega); intro A3 c3 w3 hown3 hg3 hsl3; have T := grown_blk hg3 (by repeat (first | exact HM2.out | apply Blk.drew | apply Blk.alloc)) (ownBlock_ne HL2.out HM2.out (by decide)); have q3 := T.k2; have HM3 := hid T; have HL3 := hid hown3; have HG3 := hid hg3; have HS3 := hid hsl3.1; clear hown3 hg3 hsl3 T)
  all_goals
    go_wp2_with fail
    go_end0
    have hr := HR2.out
    have hk3 : Keep (fun k => lv.ownBlock = some k) w2 w3 := Keep.grown (by repeat (first | exact Keep.refl _ _ | apply Keep.drew | apply Keep.alloc)) HG3.out (fun _ _ h => h)
    have hw3 := ownsRow_keep hr.words hk3 (own_own_ne hr.words hr.log (by decide))
    have hwm := ownBlock_ne hw3 HM3.out (by decide)
    have hlm := ownBlock_ne HL3.out HM3.out (by decide)
    refine ⟨rfl, A, c, .slice A3 (L.length + 1) c3, ⟨?_, hr.bm, HM3.out.set 1 _, ownsRow_other hw3 _ (fun e => hwm e.symm), ?_⟩, ?_, fun k h => Or.inl h, ?_⟩
    · have := hk3.size
      have := hr.base
      simp [World.setCell]
      omega
    · have h := ownsRow_other HL3.out (a := ⟨m, 1, none⟩) (.slice A3 (L.length + 1) c3) (fun e => hlm e.symm)
      rw [accs_snoc, List.length_append]
      exact h
    · exact ((HK2.out.to (S := fun k => k = m ∨ lv.ownBlock = some k)).trans (hk3.mono (fun _ h => Or.inr h)) (fun _ _ h => h)).set _ _ (fun _ => Or.inl rfl)
    · intro k h
      rcases HS3.out k h with h | h
      · exact Or.inl h
      · right
        have := HK2.out.size
        simp at h
        omega

theorem RefPost.trans {w1 w2 : World} {A1 : Option Addr} {lv1 : Value} {W2 : List Int} {L2 : List Acc} (hk : Keep (fun k => k = m ∨ lv.ownBlock = some k) w w1)
    (hA : ∀ k, (Value.slice A1 0 0).ownBlock = some k → (Value.slice A 0 0).ownBlock = some k ∨ w.heap.size ≤ k) (hl : ∀ k, lv1.ownBlock = some k → lv.ownBlock = some k ∨ w.heap.size ≤ k)
    (h : RefPost B w1 m A1 lv1 W2 L2 w2) : RefPost B w m A lv W2 L2 w2 := by
  obtain ⟨A', c', lv', h1, h2, h3, h4⟩ := h
  refine ⟨A', c', lv', h1, hk.trans h2 ?_, fun k hkk => ?_, fun k hkk => ?_⟩
  · rintro k hkw (rfl | h)
    · exact Or.inl rfl
    · rcases hl k h with h | h
      · exact Or.inr h
      · omega
  · rcases h3 k hkk with h | h
    · exact hA k h
    · exact Or.inr (Nat.le_trans hk.size h)
  · rcases h4 k hkk with h | h
    · exact hl k h
    · exact Or.inr (Nat.le_trans hk.size h)

theorem ref_PokeP (i x : Int) (hm : RefAt B w m A c lv W L) (h0 : 0 ≤ i) (hi : i < W.length) (hW : W.length ≤ 1000000) :
    Calls Try.prog 37 #[ptr m, i64 i, i64 x] w fun e w' => e = .returned (.tuple #[]) ∧ RefPost B w m A lv (W.set i.toNat x) L w' :=
  (ref_Poke B w m A c lv W L i x hm h0 hi hW).mono fun e w' ⟨h1, A', c', h2, h3, h4⟩ => ⟨h1, A', c', lv, h2, h3.mono (fun _ h => Or.inl h), fun k h => Or.inr (h4 k h), fun k h => Or.inl h⟩

theorem RefAt.cells (hm : RefAt B w m A c lv W L) {i : Nat} (hi : i < W.length) : ∃ g, A = some ⟨g, 0, none⟩ ∧ w.cell? ⟨g, i, none⟩ = some (i64 (rd W i)) ∧ g < w.heap.size := by
  obtain ⟨g, e, hg, _⟩ := ints_own hm.words (by omega) rfl
  exact ⟨g, e, hg.cell i hi, hg.lt⟩

set_option maxHeartbeats 1000000 in
theorem ref_Load (i : Int) (hm : RefAt B w m A c lv W L) (h0 : 0 ≤ i) (hi : i < W.length) (hL : L.length ≤ 1000000000) :
    Calls Try.prog 49 #[ptr m, i64 i] w fun e w' => e = .returned (i64 (rd W i.toNat)) ∧ RefPost B w m A lv W (L ++ [⟨1, i, rd W i.toNat, 0, false⟩]) w' := by
  obtain ⟨i, rfl⟩ := Int.eq_ofNat_of_zero_le h0
  rw [Int.toNat_natCast]
  have hi' : i < W.length := by omega
  obtain ⟨g, rfl, hg, hgl⟩ := hm.cells hi'
  have hms := hm.mem.k2
  have HM := hid hm
  clear hm
  go_enter Try.func49, Try.ntmps49
  go_wp2_with fail
  refine (ref_log ⟨1, i, rd W i, 0, false⟩ HM.out hL).mono ?_
  rintro e w1 ⟨rfl, hp⟩
  have HP := hid hp
  obtain ⟨A1, c1, lv1, h1, _⟩ := hp
  obtain ⟨g1, rfl, hg1, hgl1⟩ := h1.cells hi'
  have hms1 := h1.mem.k2
  clear h1 hms hg
  go_wp2_with fail
  go_ret
  exact ⟨rfl, HP.out⟩

end
end Go.Proofs.Ytlkniogapdhcpaa
