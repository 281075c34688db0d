/- package claim: New. -/
import Derived.Test.YtjloccnbcgkmgaaClaimN
namespace Go.Proofs.Ytjloccnbcgkmgaa
open Go.RowKit Go.Shelf
set_option linter.unusedVariables false
set_option linter.unusedSimpArgs false
set_option maxRecDepth 100000
attribute [local go_sem] Oper.semAt_some
/-- between two rounds -/
def NewI (w : World) (pre : List Nat) (W : World) (M : Value → List Value) : Prop :=
  ∃ A c, Blk W (w.heap.size + 1) 73 (M (.slice A pre.length c)) ∧ Blk W (w.heap.size + 2) 32 [ptr (w.heap.size + 1)] ∧ W.ownsRow (w.heap.size + 5) 3 1 (.slice A pre.length c) pre.length (ints (pre.map Int.ofNat)) ∧ w.heap.size + 5 ≤ W.heap.size ∧ Below w.heap.size w W
theorem Keep.below11 {w w' : World} (h : Keep0 w w') : Below w.heap.size w w' := ⟨h.os, h.tape, h.output, h.size, fun k hk => h.block k hk (fun x => x)⟩
/-- the blocks that a round alters -/
def NewS (w : World) (A : Option Addr) (b : Nat) : Prop := b = w.heap.size + 1 ∨ (Value.slice A 0 0).ownBlock = some b
/-- within a round: 6 makes a row of one, 7 appends it, 10 stores -/
structure WNew (w W : World) (pre : List Nat) (k : Nat) (A : Option Addr) (c : Nat) (M : Value → List Value) (S : Nat → Bool) (gh : Nat → Value) (wx : World) : Prop where
  var : Blk wx (w.heap.size + 2) 32 [ptr (w.heap.size + 1)]
  others : KeepsOthers W wx
  kept : Keep (NewS w A) W wx
  size6 : S 6 = false → wx.heap.size = W.heap.size
  new : S 6 = true → S 7 = false → Blk wx W.heap.size 3 [i64 (k : Int)]
  row : S 7 = false → wx.ownsRow (w.heap.size + 5) 3 1 (.slice A pre.length c) pre.length (ints (pre.map Int.ofNat))
  row7 : S 7 = true → ∃ A' c', gh 7 = .slice A' (pre.length + 1) c' ∧ wx.ownsRow (w.heap.size + 5) 3 1 (.slice A' (pre.length + 1) c') (pre.length + 1) (ints (pre.map Int.ofNat) ++ [i64 (k : Int)])
  mach : S 10 = false → Blk wx (w.heap.size + 1) 73 (M (.slice A pre.length c))
  mach10' : S 10 = true → Blk wx (w.heap.size + 1) 73 (M (gh 7))
theorem own_base' {w : World} {B B' : Nat} {e : TypeId} {size : Nat} {v : Value} {n : Nat} {xs : List Value} (h : w.ownsRow B e size v n xs) (hb : B' ≤ B) : w.ownsRow B' e size v n xs := by
  obtain ⟨h1, h2⟩ := h
  refine ⟨h1, ?_⟩
  rcases h2 with h2 | ⟨g, cap, cur, h3, h4, h5⟩
  · exact .inl h2
  · exact .inr ⟨g, cap, cur, h3, Nat.le_trans hb h4, h5⟩
section
variable {w W wx : World} {pre : List Nat} {k : Nat} {A : Option Addr} {c : Nat} {M : Value → List Value} {S : Nat → Bool} {gh : Nat → Value}
theorem WNew.fixed {i : Nat} (h : WNew w W pre k A c M S gh wx) (hi : i ≠ 6 ∧ i ≠ 7 ∧ i ≠ 10) : WNew w W pre k A c M (upd S i) gh wx := by
  have u6 : upd S i 6 = S 6 := by simp [upd, Ne.symm hi.1]
  have u7 : upd S i 7 = S 7 := by simp [upd, Ne.symm hi.2.1]
  have u10 : upd S i 10 = S 10 := by simp [upd, Ne.symm hi.2.2]
  exact ⟨h.var, h.others, h.kept, by rw [u6]; exact h.size6, by rw [u6, u7]; exact h.new, by rw [u7]; exact h.row, by rw [u7]; exact h.row7, by rw [u10]; exact h.mach, by rw [u10]; exact h.mach10'⟩
theorem WNew.built (h : WNew w W pre k A c M S gh wx) (h6 : S 6 = false) (hz : wx.heap.size = W.heap.size) (h76 : S 7 = true → S 6 = true) : WNew w W pre k A c M (upd S 6) gh (wx.alloc (.cells #[i64 (k : Int)] 3)) := by
  have u6 : upd S 6 6 = true := by simp [upd]
  have u7 : upd S 6 7 = S 7 := by simp [upd]
  have u10 : upd S 6 10 = S 10 := by simp [upd]
  refine ⟨h.var.alloc _, h.others.trans (KeepsOthers.alloc _ _), h.kept.alloc _, by rw [u6]; exact fun h => (by cases h), fun _ _ => Blk.made hz.symm rfl, by rw [u7]; exact fun h7 => (h.row h7).alloc _, (fun h7 => by rw [u7] at h7; have := h76 h7; rw [h6] at this; cases this), by rw [u10]; exact fun h0 => (h.mach h0).alloc _, by rw [u10]; exact fun h0 => (h.mach10' h0).alloc _⟩
theorem own_cells {B : Nat} {v : Value} {n : Nat} {xs : List Value} (h : wx.ownsRow B 3 1 v n xs) : ∀ (j : Nat) (o : Obj), v.ownBlock = some j → wx.heap[j]? = some o → o.isCells = true := by
  intro j o e ho
  rcases h.2 with ⟨rfl, _⟩ | ⟨g, cap, cur, rfl, _, hgb, _⟩
  · simp [Value.ownBlock] at e
  · have e2 : g = j := by simpa [Value.ownBlock] using e
    rw [e2, ho] at hgb
    cases hgb
    rfl
theorem WNew.app (h : WNew w W pre k A c M S gh wx) (h7 : S 7 = false) (h6 : S 6 = true) (h10 : S 10 = true → S 7 = true) {A3 : Option Addr} {c3 : Nat} {w3 : World} (ho : w3.ownsRow (w.heap.size + 5) 3 1 (.slice A3 (pre.length + 1) c3) (pre.length + 1) (ints (pre.map Int.ofNat) ++ [i64 (k : Int)]))
    (hg : wx.grownBy w3 (Value.slice A pre.length c).ownBlock) : WNew w W pre k A c M (upd S 7) (updv gh 7 (.slice A3 (pre.length + 1) c3)) w3 := by
  have u6 : upd S 7 6 = S 6 := by simp [upd]
  have u7 : upd S 7 7 = true := by simp [upd]
  have u10 : upd S 7 10 = S 10 := by simp [upd]
  have n10 : S 10 = true → False := fun h => by have := h10 h; rw [h7] at this; cases this
  have hr := h.row h7
  refine ⟨grown_blk hg h.var (ownBlock_ne hr h.var (by decide)), h.others.trans (KeepsOthers.of_grownBy hg (own_cells hr)), Keep.grown h.kept hg (fun k _ e => Or.inr (by rw [← e]; cases A <;> rfl)), by rw [u6, h6]; exact fun h => (by cases h), by rw [u7]; exact fun _ h => (by cases h), by rw [u7]; exact fun h => (by cases h), fun _ => ⟨A3, c3, by rw [updv_same], ho⟩, ?_, ?_⟩
  · rw [u10]
    exact fun h0 => grown_blk hg (h.mach h0) (ownBlock_ne hr (h.mach h0) (by decide))
  · rw [u10]
    exact fun h0 => (n10 h0).elim
theorem WNew.stored (h : WNew w W pre k A c M S gh wx) (hM : ∀ u v, (M u).set 8 v = M v) (h10 : S 10 = false) {A2 : Option Addr} {c2 : Nat} (e2 : gh 7 = .slice A2 (pre.length + 1) c2) (h7 : S 7 = true) : WNew w W pre k A c M (upd S 10) gh (wx.setCell ⟨w.heap.size + 1, 8, none⟩ (.slice A2 (pre.length + 1) c2)) := by
  have u6 : upd S 10 6 = S 6 := by simp [upd]
  have u7 : upd S 10 7 = S 7 := by simp [upd]
  have u10 : upd S 10 10 = true := by simp [upd]
  have hm := h.mach h10
  obtain ⟨A', c', e', ho'⟩ := h.row7 h7
  refine ⟨h.var.other _ (by show w.heap.size + 1 ≠ w.heap.size + 2; omega), h.others.trans (KeepsOthers.setCell _ _ _), h.kept.set _ _ (fun _ => Or.inl rfl), by rw [u6]; exact fun h6 => by simpa using h.size6 h6, by rw [u7, h7]; exact fun _ h => (by cases h), by rw [u7, h7]; exact fun h => (by cases h), by rw [u7]; exact fun _ => ⟨A', c', e', ownsRow_other ho' _ (fun e => ownBlock_ne ho' hm (by decide) e.symm)⟩, by rw [u10]; exact fun h => (by cases h), fun _ => ?_⟩
  have hs := hm.set 8 (.slice A2 (pre.length + 1) c2)
  rw [hM] at hs
  rw [e2]
  exact hs
theorem WNew.mach10 (h : WNew w W pre k A c M S gh wx) (h10 : S 10 = true) {v : Value} (e : gh 7 = v) : Blk wx (w.heap.size + 1) 73 (M v) := by rw [← e]; exact h.mach10' h10
theorem newS_no {n : Nat} {xs : List Value} (ho : W.ownsRow (w.heap.size + 5) 3 1 (.slice A n c) n xs) {b : Nat} (hb : b ≠ w.heap.size + 1 ∧ b < w.heap.size + 5) : ¬ NewS w A b := by
  rintro (h | h)
  · exact hb.1 h
  · have := (ho.lt b (by rw [← h]; cases A <;> rfl)).1
    omega
theorem newS_below {n : Nat} {xs : List Value} (ho : W.ownsRow (w.heap.size + 5) 3 1 (.slice A n c) n xs) (hk : Keep (NewS w A) W wx) (hz : w.heap.size ≤ W.heap.size) : Below w.heap.size W wx :=
  ⟨hk.os, hk.tape, hk.output, hk.size, fun k hkk => hk.block k (by omega) (newS_no ho (by omega))⟩
end
set_option maxHeartbeats 4000000 in
theorem claim_New_in (t s g l r : Int) (K : Nat) (PA : Option Addr) (pn pc : Nat) (LA : Option Addr) (ln lc : Nat) (s0 : Nat) (w : World) (hK : 1 ≤ K ∧ K ≤ 16) (hs : s0 ≤ 1000000) :
    CallsIn Fence.wide 6 Try.prog 13 #[.agg #[i64 t, i64 s, i64 g, i64 l, i64 r, i64 (K : Int), .slice PA pn pc, .slice LA ln lc], i64 (s0 : Int)] w fun e w' => ∃ x A c, e = .returned (ptr x) ∧ w.heap.size ≤ x ∧ Below w.heap.size w w' ∧ Blk w' x 73 [i64 t, i64 s, i64 g, i64 l, i64 r, i64 (K : Int), .slice PA pn pc, .slice LA ln lc, .slice A K c, .bool false, i64 0, i64 0, .bool false, i64 0, i64 0, .bool false, i64 0] ∧
      w'.ownsRow w.heap.size 3 1 (.slice A K c) K (ints ((tks K s0 K).map Int.ofNat)) := by
  refine callsIn_of_wp_marks Try.func13 rfl trivial ?_ rfl
  simp only [Try.ntmps13, List.size_toArray, List.length_cons, List.length_nil, Nat.reduceAdd, Nat.reduceSub, Array.replicate_succ, Array.replicate_zero, List.push_toArray, List.append_toArray, List.nil_append, List.cons_append]
  gi_wp2
  have hsz : (((w.alloc (.cells #[i64 t, i64 s, i64 g, i64 l, i64 r, i64 (K : Int), .slice PA pn pc, .slice LA ln lc] 24)).alloc (.cells #[i64 t, i64 s, i64 g, i64 l, i64 r, i64 (K : Int), .slice PA pn pc, .slice LA ln lc, .slice none 0 0, .bool false, i64 0, i64 0, .bool false, i64 0, i64 0, .bool false, i64 0] 73)).alloc (.cells #[ptr (w.heap.size + 1)] 32)).heap.size = w.heap.size + 3 := by simp
  have hbx : Blk (((w.alloc (.cells #[i64 t, i64 s, i64 g, i64 l, i64 r, i64 (K : Int), .slice PA pn pc, .slice LA ln lc] 24)).alloc (.cells #[i64 t, i64 s, i64 g, i64 l, i64 r, i64 (K : Int), .slice PA pn pc, .slice LA ln lc, .slice none 0 0, .bool false, i64 0, i64 0, .bool false, i64 0, i64 0, .bool false, i64 0] 73)).alloc (.cells #[ptr (w.heap.size + 1)] 32)) (w.heap.size + 1) 73 [i64 t, i64 s, i64 g, i64 l, i64 r, i64 (K : Int), .slice PA pn pc, .slice LA ln lc, .slice none 0 0, .bool false, i64 0, i64 0, .bool false, i64 0, i64 0, .bool false, i64 0] := (Blk.made (by simp) rfl).alloc _
  have hbp : Blk (((w.alloc (.cells #[i64 t, i64 s, i64 g, i64 l, i64 r, i64 (K : Int), .slice PA pn pc, .slice LA ln lc] 24)).alloc (.cells #[i64 t, i64 s, i64 g, i64 l, i64 r, i64 (K : Int), .slice PA pn pc, .slice LA ln lc, .slice none 0 0, .bool false, i64 0, i64 0, .bool false, i64 0, i64 0, .bool false, i64 0] 73)).alloc (.cells #[ptr (w.heap.size + 1)] 32)) (w.heap.size + 2) 32 [ptr (w.heap.size + 1)] := Blk.made (by simp) rfl
  have hk3 : Keep0 w (((w.alloc (.cells #[i64 t, i64 s, i64 g, i64 l, i64 r, i64 (K : Int), .slice PA pn pc, .slice LA ln lc] 24)).alloc (.cells #[i64 t, i64 s, i64 g, i64 l, i64 r, i64 (K : Int), .slice PA pn pc, .slice LA ln lc, .slice none 0 0, .bool false, i64 0, i64 0, .bool false, i64 0, i64 0, .bool false, i64 0] 73)).alloc (.cells #[ptr (w.heap.size + 1)] 32)) := (((Keep.refl _ _).alloc _).alloc _).alloc _
  refine ⟨trivial, ?_⟩
  generalize ((w.alloc (.cells #[i64 t, i64 s, i64 g, i64 l, i64 r, i64 (K : Int), .slice PA pn pc, .slice LA ln lc] 24)).alloc (.cells #[i64 t, i64 s, i64 g, i64 l, i64 r, i64 (K : Int), .slice PA pn pc, .slice LA ln lc, .slice none 0 0, .bool false, i64 0, i64 0, .bool false, i64 0, i64 0, .bool false, i64 0] 73)).alloc (.cells #[ptr (w.heap.size + 1)] 32) = w3 at *
  refine (claim_from_in Fence.wide _ trivial rfl _ _ _).mono ?_
  rintro e w' ⟨rfl, rfl⟩
  have hs5 : ((w3.alloc (.cells #[i64 (s0 : Int)] 3)).alloc (.cells #[i64 (K : Int)] 3)).heap.size = w.heap.size + 5 := by simp [hsz]
  have c1 : ((w3.alloc (.cells #[i64 (s0 : Int)] 3)).alloc (.cells #[i64 (K : Int)] 3)).cell? ⟨w.heap.size + 3, 0, none⟩ = some (i64 (s0 : Int)) := by
    have h := ((Blk.made (b := w3.heap.size) (w := w3) (t := 3) (cs := [i64 (s0 : Int)]) rfl rfl).alloc (.cells #[i64 (K : Int)] 3)).cell 0
    rw [hsz] at h
    exact h
  have c2 : ((w3.alloc (.cells #[i64 (s0 : Int)] 3)).alloc (.cells #[i64 (K : Int)] 3)).cell? ⟨w.heap.size + 4, 0, none⟩ = some (i64 (K : Int)) := by
    have h := (Blk.made (b := w3.heap.size + 1) (w := w3.alloc (.cells #[i64 (s0 : Int)] 3)) (t := 3) (cs := [i64 (K : Int)]) (by simp) rfl).cell 0
    rw [hsz] at h
    exact h
  have hbx5 := (hbx.alloc (.cells #[i64 (s0 : Int)] 3)).alloc (.cells #[i64 (K : Int)] 3)
  have hbp5 := (hbp.alloc (.cells #[i64 (s0 : Int)] 3)).alloc (.cells #[i64 (K : Int)] 3)
  have hk5 := (hk3.alloc (.cells #[i64 (s0 : Int)] 3)).alloc (.cells #[i64 (K : Int)] 3)
  rw [hsz]
  clear hbx hbp hk3 hsz
  generalize (w3.alloc (.cells #[i64 (s0 : Int)] 3)).alloc (.cells #[i64 (K : Int)] 3) = w5 at *
  have hI : OwnFrom w5.heap.size (fun (pre : List Nat) (W : World) => NewI w pre W (fun v => [i64 t, i64 s, i64 g, i64 l, i64 r, i64 (K : Int), .slice PA pn pc, .slice LA ln lc, v, .bool false, i64 0, i64 0, .bool false, i64 0, i64 0, .bool false, i64 0])) := by
    rintro pre W W' row ⟨A, c, hb, hp, ho, hw5, hbel⟩ hg hr
    have hrow : ∀ b T cs, Blk W b T cs → some b ≠ row := by
      intro b T cs h e
      obtain ⟨_, o, h1, h2⟩ := hr b e.symm
      unfold Blk at h
      rw [h] at h1
      cases h1
      cases h2
    refine ⟨A, c, (hg.block _ hb.lt (hrow _ _ _ hb)).trans hb, (hg.block _ hp.lt (hrow _ _ _ hp)).trans hp, ho.kept hg ?_, Nat.le_trans hw5 hg.size, hbel.grown hg hbel.size (fun k e => by have := (hr k e).1; omega)⟩
    rcases ho.2 with ⟨h1, _⟩ | ⟨g, cap, cur, h1, _, hgb, _⟩
    · exact .inl (by rw [h1]; rfl)
    · refine .inr fun e' => ?_
      rw [h1] at e'
      obtain ⟨_, o, h3, h4⟩ := hr g (by simpa [Value.ownBlock] using e'.symm)
      rw [hgb] at h3
      cases h3
      cases h4
  gi_wp2
  refine wpIn_rangeFunc_ownF rfl (by omega) (gf := 62) (lb := #[ptr (w.heap.size + 3 + 1), ptr (w.heap.size + 3)]) rfl trivial (enters_of Try.func62 (by kernel_rfl) rfl)
    (claim_stops Fence.wide _ trivial rfl (by omega) (w.heap.size + 3) (w.heap.size + 3 + 1) K s0 hK hs w5 (by omega) (by omega) c1 c2) (fun h k => h.trans k) (fun W l o o' hl h _ _ => KP.put o' (by omega) (by omega)) (Below.refl _ _) (fun _ => rfl)
    (fun pre W => NewI w pre W (fun v => [i64 t, i64 s, i64 g, i64 l, i64 r, i64 (K : Int), .slice PA pn pc, .slice LA ln lc, v, .bool false, i64 0, i64 0, .bool false, i64 0, i64 0, .bool false, i64 0])) (fun _ _ _ => False) hI (fun _ _ _ _ _ hs _ _ => hs)
    ⟨none, 0, hbx5, hbp5, World.ownsRow_nil _ _ _ _, by omega, hk5.below11⟩
    (fun k => { tmps := #[.agg #[i64 t, i64 s, i64 g, i64 l, i64 r, i64 (K : Int), .slice PA pn pc, .slice LA ln lc], i64 (s0 : Int), ptr w.heap.size, undef, .pointer none, ptr (w.heap.size + 1 + 1), i64 ((k : Nat) : Int), .agg #[i64 t, i64 s, i64 g, i64 l, i64 r, i64 (K : Int), .slice PA pn pc, .slice LA ln lc], .agg #[i64 t, i64 s, i64 g, i64 l, i64 r, i64 (K : Int), .slice PA pn pc, .slice LA ln lc, .slice none 0 0, .bool false, i64 0, i64 0, .bool false, i64 0, i64 0, .bool false, i64 0], ptr (w.heap.size + 1), i64 (s0 : Int), .pointer (some ⟨w.heap.size, 5, none⟩), i64 (K : Int), .func (.func 62) #[] #[ptr (w.heap.size + 3 + 1), ptr (w.heap.size + 3)], i64 ((k : Nat) : Int), undef, undef, undef, undef, undef, undef, undef, undef, undef, undef, undef], defers := [] }) ?assign ?body ?done ?stop
  case assign =>
    intro lq x W Kp hKp
    gi_wp2
    exact hKp
  case stop =>
    rintro D c pre W _ _ h _
    exact h.elim
  case done =>
    rintro D ys W hD rfl ⟨A, c, hb, hp, ho, hw5, hbel⟩ hKD
    have qb := hp.k1
    rw [tks_length] at hb ho
    gi_wp2
    refine ⟨by simp, .inl ⟨_, _, rfl, run_takeDeferred hKD, ?_⟩⟩
    have hne : ∀ b T cs, Blk W b T cs → b ≠ D := by
      intro b T cs h e
      subst e
      unfold Blk at h
      rw [h] at hKD
      cases hKD
    refine ⟨_, results_tmp rfl _ _ _, w.heap.size + 1, rfl, by omega, hbel.grown (grownBy_putObj' W D _) hbel.size (fun k e => by cases e; omega), A, c, (World.putObj_heap_other (hne _ _ _ hb)).trans hb, ?_⟩
    refine own_base' (ho.kept (grownBy_putObj' W D _) ?_) (by omega)
    rcases ho.2 with ⟨h1, _⟩ | ⟨g, cap, cur, h1, _, hgb, _⟩
    · exact .inl (by rw [h1]; rfl)
    · refine .inr fun e' => ?_
      rw [h1] at e'
      have e2 : g = D := by simpa [Value.ownBlock] using e'
      rw [e2] at hgb
      rw [hgb] at hKD
      cases hKD
  case body =>
    rintro lq pre k W ⟨A, c, hb, hp, ho, hw5, hbel⟩ hlen
    have HBX := hid hb
    have HBP := hid hp
    have HO := hid ho
    have HBE := hid hbel
    have HMF := hid (show ∃ M, M = (fun v => [i64 t, i64 s, i64 g, i64 l, i64 r, i64 (K : Int), .slice PA pn pc, .slice LA ln lc, v, .bool false, i64 0, i64 0, .bool false, i64 0, i64 0, .bool false, i64 0]) from ⟨_, rfl⟩)
    clear hb hp ho hbel hI hbx5 hbp5 hk5 c1 c2
    gi_wp2
    obtain ⟨i0, hti, hz0, hz1, hz2⟩ := info_parts info_int
    have HI := hid hti
    clear hti
    apply wpIn_region_free (WI := WNew w W pre k A c (fun v => [i64 t, i64 s, i64 g, i64 l, i64 r, i64 (K : Int), .slice PA pn pc, .slice LA ln lc, v, .bool false, i64 0, i64 0, .bool false, i64 0, i64 0, .bool false, i64 0])) (by kernel_rfl) (by kernel_rfl) (by kernel_rfl)
    case hob =>
      apply ObligF.fixed
      case h =>
        intro S gh w1 hwi hSi hd hcl
        apply StepOk.intro
        intro K hK
        have qp := hwi.var.k1
        go_simp
        apply hK
        · rfl
        · conv => (lhs; whnf)
        · exact hwi.fixed (by decide)
      simp only [put_lit, put_none]
      try dsimp only [List.set_cons_succ, List.set_cons_zero]
      apply ObligF.fixed
      case h =>
        intro S gh w1 hwi hSi hd hcl
        apply StepOk.intro
        intro K hK
        have qp := hwi.var.k1
        go_simp
        apply hK
        · rfl
        · conv => (lhs; whnf)
        · exact hwi.fixed (by decide)
      simp only [put_lit, put_none]
      try dsimp only [List.set_cons_succ, List.set_cons_zero]
      apply ObligF.fixed
      case h =>
        intro S gh w1 hwi hSi hd hcl
        apply StepOk.intro
        intro K hK
        go_simp
        apply hK
        · rfl
        · conv => (lhs; whnf)
        · exact hwi.fixed (by decide)
      simp only [put_lit, put_none]
      try dsimp only [List.set_cons_succ, List.set_cons_zero]
      apply ObligF.fixed
      case h =>
        intro S gh w1 hwi hSi hd hcl
        apply StepOk.intro
        intro K hK
        go_simp
        apply hK
        · rfl
        · conv => (lhs; whnf)
        · exact hwi.fixed (by decide)
      simp only [put_lit, put_none]
      try dsimp only [List.set_cons_succ, List.set_cons_zero]
      apply ObligF.fixed
      case h =>
        intro S gh w1 hwi hSi hd hcl
        apply StepOk.intro
        intro K hK
        have hlast : S 10 = false := by
          cases h : S 10 with
          | false => rfl
          | true => exact absurd ((hcl 10 _ rfl h) ⟨4, .phase⟩ (by simp) rfl) (by rw [hSi]; decide)
        have qx := (hwi.mach hlast).k17
        go_simp
        apply hK
        · rfl
        · conv => (lhs; whnf)
        · exact hwi.fixed (by decide)
      simp only [put_lit, put_none]
      try dsimp only [List.set_cons_succ, List.set_cons_zero]
      apply ObligF.fixed
      case h =>
        intro S gh w1 hwi hSi hd hcl
        apply StepOk.intro
        intro K hK
        go_simp
        apply hK
        · rfl
        · conv => (lhs; whnf)
        · exact hwi.fixed (by decide)
      simp only [put_lit, put_none]
      try dsimp only [List.set_cons_succ, List.set_cons_zero]
      apply ObligF.fixed
      case h =>
        intro S gh w1 hwi hSi hd hcl
        apply StepOk.intro
        intro K hK
        have hz := hwi.size6 hSi
        go_simp
        apply hK
        · rfl
        · conv => (lhs; whnf)
        · exact hwi.built hSi hz (fun h => (hcl 7 _ rfl h) ⟨6, .data⟩ (by simp) rfl)
      simp only [put_lit, put_none]
      try dsimp only [List.set_cons_succ, List.set_cons_zero]
      apply ObligF.free
      case h =>
        intro S gh w1 hwi hSi hd hcl
        apply StepG.intro
        intro K hK
        (refine step_append_own ?a1 (.tmp 19) (.tmp 21) 22 ?a2 ((w.heap.size + 5)) 3 i0 ?z 1 8 ?a3 ?a4 ?a5 ?a6 ?a7 ?a8 ?a9 (.slice A pre.length c) (pre.length) (ints (pre.map Int.ofNat)) ?a10 ?hown (⟨W.heap.size, 0, none⟩) (1) (1) ([i64 ((k : Nat) : Int)]) ?a11 ?a12 ?hnews ?hone ?h63 ?hby ?hbase ?_; (case a1 => rfl); (case a2 => rfl); (case a3 => exact Try.underlying22); (case a4 => exact HI.out); (case a5 => exact hz0); (case a6 => exact hz1); (case a7 => exact hz2); (case a8 => rfl); (case a9 => decide); (case a10 => rfl); (case a11 => rfl); (case a12 => rfl); (case hown => exact hwi.row hSi); (case h63 => unfold maxLen; omega); (case hby => omega); (case hnews => exact news_at (hwi.new (hd ⟨6, .data⟩ (by simp) rfl) hSi)); (case hone => simp [Value.oneCell']); (case hbase => have := hwi.kept.size; omega); intro A3 c3 w3 hown3 hg3 hsl3; apply hK; rfl; exact hwi.app hSi (hd ⟨6, .data⟩ (by simp) rfl) (fun h => (hcl 10 _ rfl h) ⟨7, .data⟩ (by simp) rfl) hown3 hg3)
      simp only [put_lit, put_none]
      try dsimp only [List.set_cons_succ, List.set_cons_zero]
      apply ObligF.fixed
      case h =>
        intro S gh w1 hwi hSi hd hcl
        apply StepOk.intro
        intro K hK
        go_simp
        apply hK
        · rfl
        · conv => (lhs; whnf)
        · exact hwi.fixed (by decide)
      simp only [put_lit, put_none]
      try dsimp only [List.set_cons_succ, List.set_cons_zero]
      apply ObligF.fixed
      case h =>
        intro S gh w1 hwi hSi hd hcl
        apply StepOk.intro
        intro K hK
        go_simp
        apply hK
        · rfl
        · conv => (lhs; whnf)
        · exact hwi.fixed (by decide)
      simp only [put_lit, put_none]
      try dsimp only [List.set_cons_succ, List.set_cons_zero]
      apply ObligF.fixed
      case h =>
        intro S gh w1 hwi hSi hd hcl
        apply StepOk.intro
        intro K hK
        obtain ⟨A2, c2, e2, ho2⟩ := hwi.row7 (hd ⟨7, .data⟩ (by simp) rfl)
        have qx := (hwi.mach hSi).k17
        rw [e2]
        go_simp
        apply hK
        · rfl
        · conv => (lhs; whnf)
        · exact hwi.stored (fun _ _ => rfl) hSi e2 (hd ⟨7, .data⟩ (by simp) rfl)
      simp only [put_lit, put_none]
      try dsimp only [List.set_cons_succ, List.set_cons_zero]
      exact ObligF.nil
    case h0 =>
      exact ⟨HBP.out.drew, KeepsOthers.drew W, (Keep.refl _ _).drew, fun _ => rfl, fun h => (by cases h), fun _ => HO.out, fun h => (by cases h), fun _ => HBX.out.drew, fun h => (by cases h)⟩
    case hend =>
      intro S gh wx hwi hall
      obtain ⟨A3, c3, e3, ho3⟩ := hwi.row7 (hall 7 (by decide))
      have hm3 := hwi.mach10 (hall 10 (by decide)) e3
      have hv3 := hwi.var
      have hko := hwi.others
      have hkk := hwi.kept
      clear hwi hall
      gi_wp2
      exact ⟨hko, KP.keep hkk (newS_no HO.out (by omega)) (newS_no HO.out (by omega)), A3, c3, by simpa using hm3, hv3, by simpa [ints] using ho3, Nat.le_trans hw5 hkk.size, HBE.out.trans (newS_below HO.out hkk HBE.out.size)⟩
end Go.Proofs.Ytjloccnbcgkmgaa
