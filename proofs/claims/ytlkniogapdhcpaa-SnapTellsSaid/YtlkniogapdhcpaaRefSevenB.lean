/- breadlineref07: Step. -/
import Derived.Test.YtlkniogapdhcpaaRefSevenA
namespace Go.Proofs.Ytlkniogapdhcpaa
open Go.RowKit
set_option linter.unusedVariables false
set_option linter.unusedSimpArgs false
set_option maxRecDepth 100000
def r7cs (b s : Nat) (pk : Bool) (A : Option Addr) (c n : Nat) (t : SN) : List Value := [i64 (b : Int), i64 (s : Int), i64 t.left, .bool pk, .slice A n c, i64 0, i64 t.n, .bool t.ex, i64 0, .bool t.fin]
structure R7 (b s : Nat) (pk : Bool) (w : World) (y : Nat) (A : Option Addr) (t : SN) : Prop where
  at_ : ∃ c n, Blk w y 88 (r7cs b s pk A c n t) ∧ (t.fin = false → n = t.got.length ∧ w.ownsRow 0 3 1 (.slice A n c) n (ints t.got)) ∧ (t.fin = true → A = none)
def RS (y : Nat) (A : Option Addr) (k : Nat) : Prop := k = y ∨ (Value.slice A 0 0).ownBlock = some k
section
variable {B : Nat} {w w' : World} {m y : Nat} {A Ag : Option Addr} {ca : Nat} {lv : Value} {b s : Nat} {pk : Bool} {t : SN}
theorem R7.lt (h : R7 b s pk w y Ag t) : ∀ k, RS y Ag k → k < w.heap.size := by
  obtain ⟨c, n, h1, h2, h3⟩ := h.at_
  rintro k (rfl | hk)
  · exact h1.lt
  · cases hf : t.fin with
    | true => rw [h3 hf] at hk; simp [Value.ownBlock] at hk
    | false =>
      obtain ⟨_, ho⟩ := h2 hf
      rcases ho.2 with ⟨e, _⟩ | ⟨g, cap, cur, e, _, hg, _⟩
      · cases e; simp [Value.ownBlock] at hk
      · cases e
        have : g = k := by simpa [Value.ownBlock] using hk
        subst this
        exact (Array.getElem?_eq_some_iff.1 hg).1
theorem R7.keep {S : Nat → Prop} (h : R7 b s pk w y Ag t) (hk : Keep S w w') (hS : ∀ k, RS y Ag k → ¬ S k) : R7 b s pk w' y Ag t := by
  obtain ⟨c, n, h1, h2, h3⟩ := h.at_
  exact ⟨c, n, hk.blk h1 (hS _ (Or.inl rfl)), fun hf => ⟨(h2 hf).1, ownsRow_keep (h2 hf).2 hk (fun k hkk => hS k (Or.inr ((own_any _ _ _ _ _).trans hkk)))⟩, h3⟩
theorem R7.poke (h : R7 b s pk w y Ag t) (i : Nat) (x : Int) : R7 b s pk w y Ag (nPk t i x) := ⟨h.at_⟩
def R7P (B : Nat) (w : World) (m y : Nat) (A Ag : Option Addr) (lv : Value) (b s : Nat) (pk : Bool) (t : SN) (w' : World) : Prop :=
  ∃ A' c' lv' Ag', RefAt B w' m A' c' lv' t.W t.L ∧ R7 b s pk w' y Ag' t ∧ (∀ k, RS y Ag' k → ¬ RF m A' lv' k) ∧ Keep (fun c => (c = m ∨ lv.ownBlock = some c) ∨ c = y) w w' ∧
    (∀ c, (Value.slice A' 0 0).ownBlock = some c → (Value.slice A 0 0).ownBlock = some c ∨ w.heap.size ≤ c) ∧ (∀ c, lv'.ownBlock = some c → lv.ownBlock = some c ∨ w.heap.size ≤ c) ∧ (∀ c, (Value.slice Ag' 0 0).ownBlock = some c → (Value.slice Ag 0 0).ownBlock = some c ∨ w.heap.size ≤ c)
set_option maxHeartbeats 1000000 in
theorem r7_step_end {x3 x4 x5 x6 x7 x8 x9 : Value} (hy : Blk w y 88 [i64 (b : Int), i64 (s : Int), x3, x4, x5, x6, x7, x8, x9, .bool true]) :
    Calls Try.prog 38 #[ptr y, ptr m] w fun e w' => e = .returned (.bool true) ∧ w = w' := by
  have qy := hy.k10
  clear hy
  go_enter Try.func38, Try.ntmps38
  go_wp2_with fail
  go_ret
  exact ⟨rfl, rfl⟩
/-- the far blocks behind an access of the reference Mem -/
theorem r7_far {A2 : Option Addr} {lv2 : Value} (hR : ∀ k, RS y Ag k → ¬ RF m A lv k) (hl : ∀ k, RS y Ag k → k < w.heap.size)
    (ha : ∀ c, (Value.slice A2 0 0).ownBlock = some c → (Value.slice A 0 0).ownBlock = some c ∨ w.heap.size ≤ c) (hlv : ∀ c, lv2.ownBlock = some c → lv.ownBlock = some c ∨ w.heap.size ≤ c) : ∀ k, RS y Ag k → ¬ RF m A2 lv2 k := by
  rintro k hk (h | h | h)
  · exact hR k hk (Or.inl h)
  · rcases ha k h with h | h
    · exact hR k hk (Or.inr (Or.inl h))
    · have := hl k hk; omega
  · rcases hlv k h with h | h
    · exact hR k hk (Or.inr (Or.inr h))
    · have := hl k hk; omega
theorem r7_no (hR : ∀ k, RS y Ag k → ¬ RF m A lv k) : ∀ k, RS y Ag k → ¬ (k = m ∨ lv.ownBlock = some k) := by
  rintro k hk (h | h)
  · exact hR k hk (Or.inl h)
  · exact hR k hk (Or.inr (Or.inr h))
set_option maxHeartbeats 2000000 in
theorem r7_peek (hm : RefAt B w m A ca lv t.W t.L) (hy : R7 b s true w y Ag t) (hf : t.fin = false) (hR : ∀ k, RS y Ag k → ¬ RF m A lv k) (hb : b < t.W.length) (hx : t.ex = false) (hL : t.L.length ≤ 1000000000) (hg : Ag = none) :
    Calls Try.prog 38 #[ptr y, ptr m] w fun e w' => e = .returned (.bool true) ∧ R7P B w m y A Ag lv b s true (gNext b t) w' := by
  obtain ⟨c, n, h1, h2, _⟩ := hy.at_
  have hlt := hy.lt
  subst hg
  have hgn : gNext b t = { t with L := t.L ++ [⟨1, (b : Nat), rd t.W b, 0, false⟩], n := rd t.W b, fin := true } := by unfold gNext; rw [if_neg (by rw [hf]; decide)]
  rw [hgn]
  unfold r7cs at h1
  rw [hf, hx] at h1
  have HY := hid h1
  have qy := h1.k10
  have HM := hid hm
  clear h1 hm
  go_enter Try.func38, Try.ntmps38
  go_wp2_with fail
  refine (ref_Load (b : Int) HM.out (by omega) (by omega) hL).mono ?_
  rintro e w2 ⟨rfl, A2, c2, lv2, hm2, hk2, ha2, hl2⟩
  rw [Int.toNat_natCast] at *
  have HM2 := hid hm2
  have HK2 := hid hk2
  have HY2 := hid (hk2.blk HY.out (r7_no hR y (Or.inl rfl)))
  have HFA := hid (r7_far hR hlt ha2 hl2)
  have HA2 := hid ha2
  have HL2 := hid hl2
  have qy2 := HY2.out.k10
  clear hm2 hk2 ha2 hl2 qy
  have hfin := (((((HY2.out.set 5 (i64 0)).set 6 (i64 (rd t.W b))).set 7 (.bool false)).set 8 (i64 0)).set 9 (.bool true))
  simp only [List.set_cons_succ, List.set_cons_zero] at hfin
  have HF := hid hfin
  clear hfin
  go_wp2_with fail
  go_ret
  have hkk : Keep (fun k => k = y) w2 _ := (((((Keep.refl (fun k => k = y) w2).set ⟨y, 5, none⟩ (i64 0) (fun _ => rfl)).set ⟨y, 6, none⟩ (i64 (rd t.W b)) (fun _ => rfl)).set ⟨y, 7, none⟩ (.bool false) (fun _ => rfl)).set ⟨y, 8, none⟩ (i64 0) (fun _ => rfl)).set ⟨y, 9, none⟩ (.bool true) (fun _ => rfl)
  exact ⟨rfl, A2, c2, lv2, none, HM2.out.keep hkk (fun k h e => HFA.out y (Or.inl rfl) (e ▸ h)), ⟨⟨c, n, by unfold r7cs; rw [hx]; exact HF.out, (fun h => by cases h), fun _ => rfl⟩⟩, HFA.out, (HK2.out.mono (fun _ h => Or.inl h)).trans hkk (fun _ _ h => Or.inr h), HA2.out, HL2.out, fun k h => by simp [Value.ownBlock] at h⟩
theorem rf_lt {W : List Int} {L : List Acc} (hm : RefAt B w m A ca lv W L) : ∀ k, RF m A lv k → k < w.heap.size := by
  rintro k (rfl | h | h)
  · exact hm.mem.lt
  · exact (hm.words.lt k ((own_any _ _ _ _ _).trans h)).2
  · exact (hm.log.lt k h).2
theorem nNext_done {vv : Int} {G : List Int} {rn : Int} {rx re : Bool} (hf : t.fin = false) (hlen : t.got.length + 1 = 4 + 2 * s) (hG : G = t.got) (hvv : vv = rd t.W (wat b s t.got.length))
    (hres : rn = (if calmB s (G ++ [vv]) = true then gsum s (G ++ [vv]) 8 else if t.left - 1 = 0 then rd (G ++ [vv]) 2 else t.n) ∧ rx = (if calmB s (G ++ [vv]) = true then true else if t.left - 1 = 0 then false else t.ex) ∧ re = (if calmB s (G ++ [vv]) = true then true else if t.left - 1 = 0 then true else false)) :
    ∃ got', nNext b s t = ⟨t.W, t.L ++ [⟨1, (wat b s t.got.length : Nat), rd t.W (wat b s t.got.length), 0, false⟩], t.left - 1, got', rn, rx, re⟩ ∧ (re = false → got' = []) := by
  obtain ⟨h1, h2, h3⟩ := hres
  have e : nNext b s t = clN s { t with L := t.L ++ [⟨1, (wat b s t.got.length : Nat), rd t.W (wat b s t.got.length), 0, false⟩] } (G ++ [vv]) := by
    unfold nNext
    rw [if_neg (by rw [hf]; decide), if_pos hlen, hG, hvv]
  rw [e]
  unfold clN
  by_cases hc : calmB s (G ++ [vv]) = true
  · rw [if_pos hc] at h1 h2 h3 ⊢
    subst h1 h2 h3
    exact ⟨_, rfl, fun h => by cases h⟩
  · rw [if_neg hc] at h1 h2 h3 ⊢
    by_cases hz : t.left - 1 = 0
    · rw [if_pos hz] at h1 h2 h3
      rw [if_pos (show ({ t with L := t.L ++ [⟨1, (wat b s t.got.length : Nat), rd t.W (wat b s t.got.length), 0, false⟩] } : SN).left - 1 = 0 from hz)]
      subst h1 h2 h3
      exact ⟨_, rfl, fun h => by cases h⟩
    · rw [if_neg hz] at h1 h2 h3
      rw [if_neg (show ¬ ({ t with L := t.L ++ [⟨1, (wat b s t.got.length : Nat), rd t.W (wat b s t.got.length), 0, false⟩] } : SN).left - 1 = 0 from hz)]
      subst h1 h2 h3
      exact ⟨[], by rw [← hf], fun _ => rfl⟩
theorem r7_fin {w1 w2 wc : World} {A2 Ag' : Option Addr} {c2 : Nat} {lv2 : Value} {W : List Int} {L : List Acc} {u : SN} (hu : u.W = W ∧ u.L = L) (hk1 : Keep0 w w1) (hm2 : RefAt B w2 m A2 c2 lv2 W L) (hk2 : Keep (fun k => k = m ∨ lv.ownBlock = some k) w1 w2)
    (hfa : ¬ RF m A2 lv2 y) (ha2 : ∀ c, (Value.slice A2 0 0).ownBlock = some c → (Value.slice A 0 0).ownBlock = some c ∨ w1.heap.size ≤ c) (hl2 : ∀ c, lv2.ownBlock = some c → lv.ownBlock = some c ∨ w1.heap.size ≤ c) (hkc : Keep (fun k => k = y) w2 wc)
    (hr : R7 b s false wc y Ag' u) (hnew : ∀ k, (Value.slice Ag' 0 0).ownBlock = some k → w2.heap.size ≤ k) : R7P B w m y A Ag lv b s false u wc := by
  obtain ⟨rfl, rfl⟩ := hu
  refine ⟨A2, c2, lv2, Ag', hm2.keep hkc (fun k h e => hfa (e ▸ h)), hr, ?_, ((hk1.mono (T := fun c => (c = m ∨ lv.ownBlock = some c) ∨ c = y) (fun _ h => h.elim)).trans hk2 (fun _ _ h => Or.inl h)).trans hkc (fun _ _ h => Or.inr h), fun c h => (ha2 c h).imp id (fun h => Nat.le_trans hk1.size h), fun c h => (hl2 c h).imp id (fun h => Nat.le_trans hk1.size h), fun c h => Or.inr (Nat.le_trans hk1.size (Nat.le_trans hk2.size (hnew c h)))⟩
  rintro k (rfl | hk) h
  · exact hfa h
  · have h1 := hnew k hk
    have h2 := rf_lt hm2 k h
    omega
set_option maxHeartbeats 4000000 in
theorem r7_count (hm : RefAt B w m A ca lv t.W t.L) (hy : R7 b s false w y Ag t) (hf : t.fin = false) (hR : ∀ k, RS y Ag k → ¬ RF m A lv k) (hi : NInv b s t) (hb : b ≤ 1000000) (hL : t.L.length ≤ 1000000000) :
    Calls Try.prog 38 #[ptr y, ptr m] w fun e w' => e = .returned (.bool (nNext b s t).fin) ∧ R7P B w m y A Ag lv b s false (nNext b s t) w' := by
  obtain ⟨c, n, h1, h2, _⟩ := hy.at_
  have hlt := hy.lt
  obtain ⟨hn, ho⟩ := h2 hf
  have hs8 := hi.s1
  have hlb : 1 ≤ t.left ∧ t.left ≤ 1000 := ⟨hi.lb hf, hi.lt⟩
  have hig := hi.gb hf
  have hwat := wat_bd (b := b) hs8.1 hig
  have hln := hi.ln
  have HFIN := hid hf
  subst hn
  clear hy h2 hi
  unfold r7cs at h1
  rw [hf] at h1
  have HY := hid h1
  have HO := hid ho
  have HM := hid hm
  have qy := h1.k10
  clear ho hm hf
  have hword := ref7_word (t.got.length) h1 hb hs8 hig
  have HW := hid hword
  clear hword h1
  go_enter Try.func38, Try.ntmps38
  go_wp2_with fail
  refine HW.out.mono ?_
  rintro e w1 ⟨rfl, hk1⟩
  have HM1 := hid (HM.out.keep hk1 (fun _ _ h => h))
  have HY1 := hid (hk1.blk HY.out (fun h => h))
  have HO1 := hid (ownsRow_keep HO.out hk1 (fun _ _ h => h))
  have hlt1 : ∀ k, RS y Ag k → k < w1.heap.size := fun k h => Nat.lt_of_lt_of_le (hlt k h) hk1.size
  have HK1 := hid hk1
  clear hk1 HM HY HO qy HW
  have qy1 := HY1.out.k10
  go_wp2_with fail
  refine (ref_Load ((wat b s t.got.length : Nat) : Int) HM1.out (by omega) (by omega) hL).mono ?_
  rintro e w2 ⟨rfl, A2, c2, lv2, hm2, hk2, ha2, hl2⟩
  rw [Int.toNat_natCast] at *
  have HM2 := hid hm2
  have HK2 := hid hk2
  have HY2 := hid (hk2.blk HY1.out (r7_no hR y (Or.inl rfl)))
  have HO2 := hid (ownsRow_keep HO1.out hk2 (fun k hk => r7_no hR k (Or.inr ((own_any _ _ _ _ _).trans hk))))
  have HFA := hid (r7_far hR hlt1 ha2 hl2)
  have HA2 := hid ha2
  have HL2 := hid hl2
  have qy2 := HY2.out.k10
  clear hm2 hk2 ha2 hl2 qy1 HY1 HM1 HO1
  obtain ⟨vv, hvv⟩ : ∃ v, v = rd t.W (wat b s t.got.length) := ⟨_, rfl⟩
  rw [← hvv]
  have HVV := hid hvv
  obtain ⟨i, hgi⟩ : ∃ v, v = t.got.length := ⟨_, rfl⟩
  rw [← hgi] at HO2 HY2 qy2 hig
  obtain ⟨G, hG⟩ : ∃ v, v = t.got := ⟨_, rfl⟩
  have HG := hid hG
  rw [← hG] at HO2
  have HGI := hid (show G.length = i by rw [hG, hgi])
  clear hvv hG hgi
  obtain ⟨i0, hti, hz0, hz1, hz2⟩ := info_parts info_int
  have HI := hid hti
  clear hti
  have HK8' : Keep0 w2 (w2.alloc (.cells #[] 3)) := (Keep.refl _ _).alloc _
  rcases HO2.out.2 with ⟨e, h0⟩ | ⟨g, cap, cur, e, _, hgb, _⟩
  · obtain ⟨rfl, hi0, rfl⟩ : Ag = none ∧ i = 0 ∧ c = 0 := by cases e; exact ⟨rfl, rfl, rfl⟩
    have hG0 : G = [] := List.eq_nil_of_length_eq_zero (by rw [HGI.out, hi0])
    obtain ⟨A8, hA8⟩ : ∃ A, A = some (⟨w2.heap.size, 0, none⟩ : Addr) := ⟨_, rfl⟩
    obtain ⟨c8, hc8⟩ : ∃ c : Nat, c = 0 := ⟨_, rfl⟩
    have HO8 := hid (show (w2.alloc (.cells #[] 3)).ownsRow w2.heap.size 3 1 (.slice A8 i c8) i (ints G) from by rw [hA8, hc8, hi0, hG0]; exact World.ownsRow_made w2 #[] 0 (Nat.le_refl _) (by unfold maxLen; omega) (by simp))
    have TY := hid (HY2.out.alloc (.cells #[] 3))
    have HK8 := hid HK8'
    have qy8 := TY.out.k10
    obtain ⟨gv, hgv⟩ : ∃ gv, gv = Value.slice none i 0 := ⟨_, rfl⟩
    rw [← hgv] at HY2 TY qy2 qy8
    have HGV := hid (show gv = .slice none 0 0 by rw [hgv, hi0])
    have HA8 := hid hA8
    have HC8 := hid hc8
    have HI0 := hid hi0
    clear hG0 HK8' h0 hgv qy2 hA8 hc8 hi0 e
    have qy2 := HY2.out.k10
    go_wp2_with first | (at_builtin; refine wpl_append_none rfl (.tmp 37) (.tmp 41) 33 rfl 3 i0 Try.underlying33 HI.out ⟨w2.heap.size, 0, none⟩ 0 0 rfl gv rfl HGV.out (Nat.le_refl _) A8 i c8 HA8.out HI0.out HC8.out ?_; clear qy2) | (at_builtin; refine wpl_append_own ?a1 (.tmp 42) (.tmp 44) 33 ?a2 (w2.heap.size) 3 i0 ?z 1 8 ?a3 ?a4 ?a5 ?a6 ?a7 ?a8 ?a9 (.slice A8 i c8) (i) (ints G) ?a10 ?hown (⟨w2.heap.size + 1, 0, none⟩) (1) (1) ([i64 vv]) ?a11 ?a12 ?hnews ?hone ?h63 ?hby ?hbase ?_; (case a1 => rfl); (case a2 => rfl); (case a3 => exact Try.underlying33); (case a4 => exact HI.out); (case a5 => exact hz0); (case a6 => exact hz1); (case a7 => exact hz2); (case a8 => rfl); (case a9 => decide); (case a10 => rfl); (case a11 => rfl); (case a12 => rfl); (case hown => exact ownsRow_keep (S := fun _ => False) HO8.out ((Keep.refl _ _).alloc _) (fun _ _ h => h)); (case h63 => unfold maxLen; omega); (case hby => omega); (case hnews => exact news_at (Blk.made (by simp) rfl)); (case hone => simp [Value.oneCell']); (case hbase => have := HK8.out.size; simp; omega); intro A9 c9 w9 hown9 hg9 hsl9; have TY9 := hid (grown_blk hg9 (TY.out.alloc _) (ownBlock_ne (ownsRow_keep (S := fun _ => False) HO8.out ((Keep.refl _ _).alloc _) (fun _ _ h => h)) (TY.out.alloc (.cells #[i64 vv] 3)) (by decide))); have qy9 := TY9.out.k10; have HK9 := hid (Keep.grown (HK8.out.alloc _) hg9 (fun k hk e => by have := (HO8.out.lt k e).1; omega)); have HO9 := hid hown9; clear hown9 hg9 hsl9 qy8)
    have HK9' := HK9
    obtain ⟨g9, rfl, hgi9, hgz9⟩ := ints_own (l := G ++ [vv]) (show w9.ownsRow w2.heap.size 3 1 (.slice A9 (i + 1) c9) (i + 1) (ints (G ++ [vv])) from by simpa [ints] using HO9.out) (by omega) (by rw [List.length_append, HGI.out]; rfl)
    have HG9 := hid hgi9
    have hgy : ¬ g9 = y := fun e => by have := HY2.out.lt; omega
    have HG91 := hid (show (G ++ [vv]).length = i + 1 by rw [List.length_append, HGI.out]; rfl)
    have HO92 := hid (show w9.ownsRow 0 3 1 (.slice (some ⟨g9, 0, none⟩) (i + 1) c9) (i + 1) (ints (G ++ [vv])) from own_base7 (by simpa [ints] using HO9.out) (Nat.zero_le _))
    generalize hi1 : i + 1 = i1 at *
    have HI1 := hid hi1
    obtain ⟨wa, hwa⟩ : ∃ v, v = w9.setCell ⟨y, 4, none⟩ (.slice (some ⟨g9, 0, none⟩) i1 c9) := ⟨_, rfl⟩
    have hka : Keep (fun k => k = y) w9 wa := by rw [hwa]; exact (Keep.refl _ _).set _ _ (fun _ => rfl)
    have hya := TY9.out.set 4 (.slice (some ⟨g9, 0, none⟩) i1 c9)
    simp only [List.set_cons_succ, List.set_cons_zero] at hya
    rw [← hwa] at hya
    rw [← hwa]
    have HYA := hid hya
    have HGA := hid (hka.ints HG9.out hgy)
    have HOA := hid (ownsRow_keep HO92.out hka (fun k e => by have h9 : g9 = k := (by simpa [Value.ownBlock] using e); omega))
    have HKA := hid ((HK9.out.mono (T := fun k => k = y) (fun _ h => h.elim)).trans hka (fun _ _ h => h))
    have qya := hya.k10
    have y2 : IntKind.i64.wrap (2 * (s : Int)) = 2 * (s : Int) := IntWalk.i64_in _ (by omega)
    have y3 : IntKind.i64.wrap (4 + 2 * (s : Int)) = 4 + 2 * (s : Int) := IntWalk.i64_in _ (by omega)
    clear hwa hka hya qy9 TY9 HO9 HO8 TY HG9 HK8 HK9 HK9' hgi9 HO92 hi1
    go_quiet (fail)
    obtain ⟨wb, hwb⟩ : ∃ v, v = wa.drewN nq := ⟨_, rfl⟩
    rw [← hwb]
    have HYB := hid (show Blk wb y 88 _ from by rw [hwb]; exact HYA.out.drewN nq)
    have HGB := hid (show Ints wb g9 (G ++ [vv]) from by rw [hwb]; exact HGA.out.drewN nq)
    have HOB := hid (show wb.ownsRow 0 3 1 (.slice (some ⟨g9, 0, none⟩) i1 c9) i1 (ints (G ++ [vv])) from by rw [hwb]; exact HOA.out)
    have HKB := hid (show Keep (fun k => k = y) w2 wb from by rw [hwb]; exact HKA.out.drewN nq)
    have qyb := HYB.out.k10
    clear qya HYA HGA HOA HKA hwb
    by_cases hd : i1 = 4 + 2 * s
    · have g1 : ((i1 : Int) == 4 + 2 * (s : Int)) = true := by simp; omega
      have hcl := ref7_closed (G ++ [vv]) i1 hd HYB.out HGB.out hgy HG91.out hs8 hlb
      have HD := hid hd
      clear hd
      obtain ⟨rn, hrn⟩ : ∃ v, v = (if calmB s (G ++ [vv]) = true then gsum s (G ++ [vv]) 8 else if t.left - 1 = 0 then rd (G ++ [vv]) 2 else t.n) := ⟨_, rfl⟩
      obtain ⟨rx, hrx⟩ : ∃ v, v = (if calmB s (G ++ [vv]) = true then true else if t.left - 1 = 0 then false else t.ex) := ⟨_, rfl⟩
      obtain ⟨re, hre⟩ : ∃ v, v = (if calmB s (G ++ [vv]) = true then true else if t.left - 1 = 0 then true else false) := ⟨_, rfl⟩
      rw [← hrn, ← hrx, ← hre] at hcl
      have HR3 := hid (And.intro hrn (And.intro hrx hre))
      have HCL := hid hcl
      clear hrn hrx hre hcl
      go_wp2_with fail
      refine HCL.out.mono ?_
      rintro e wc ⟨rfl, hkc, hyc⟩
      have HYC := hid hyc
      have HKC := hid (HKB.out.trans hkc (fun _ _ h => h))
      have qyc := hyc.k10
      clear hkc hyc qyb HCL
      go_wp2_with fail
      go_ret
      obtain ⟨got', e1, e2⟩ := nNext_done (b := b) HFIN.out (by have h1 := HD.out; have h2 := HI1.out; have h3 := HGI.out; rw [HG.out] at h3; omega) HG.out HVV.out HR3.out
      rw [e1]
      exact ⟨rfl, r7_fin (Ag' := none) ⟨rfl, rfl⟩ HK1.out HM2.out HK2.out (HFA.out y (Or.inl rfl)) HA2.out HL2.out HKC.out ⟨⟨0, 0, HYC.out, fun h => by rw [e2 h]; exact ⟨rfl, World.ownsRow_nil _ _ _ _⟩, fun _ => rfl⟩⟩ (fun k h => by simp [Value.ownBlock] at h)⟩
    · have g1 : ((i1 : Int) == 4 + 2 * (s : Int)) = false := beq_eq_false_iff_ne.2 (by omega)
      have HD := hid hd
      clear hd
      go_wp2_with fail
      go_ret
      have e1 : nNext b s t = { t with L := t.L ++ [⟨1, (wat b s t.got.length : Nat), rd t.W (wat b s t.got.length), 0, false⟩], got := G ++ [vv] } := by
        unfold nNext
        rw [if_neg (by rw [HFIN.out]; decide), if_neg (by have h1 := HD.out; have h2 := HI1.out; have h3 := HGI.out; rw [HG.out] at h3; omega), HG.out, HVV.out]
      rw [e1]
      exact ⟨congrArg (fun b => Ending.returned (Value.bool b)) HFIN.out.symm, r7_fin (Ag' := some ⟨g9, 0, none⟩) ⟨rfl, rfl⟩ HK1.out HM2.out HK2.out (HFA.out y (Or.inl rfl)) HA2.out HL2.out HKB.out ⟨⟨c9, i1, by unfold r7cs; rw [show ({ t with L := t.L ++ [⟨1, (wat b s t.got.length : Nat), rd t.W (wat b s t.got.length), 0, false⟩], got := G ++ [vv] } : SN).fin = false from HFIN.out]; exact HYB.out, fun _ => ⟨HG91.out.symm, HOB.out⟩, fun h => by rw [show ({ t with L := t.L ++ [⟨1, (wat b s t.got.length : Nat), rd t.W (wat b s t.got.length), 0, false⟩], got := G ++ [vv] } : SN).fin = false from HFIN.out] at h; cases h⟩⟩ (fun k h => by have h9 : g9 = k := (by simpa [Value.ownBlock] using h); omega)⟩
  · cases e
    have hce := HO2.out.cells (g := g) rfl
    have HCE := hid hce
    clear hce hgb
    have hi9 : i ≤ 1000 := by omega
    obtain ⟨cg, hcg⟩ : ∃ cg, cg = c := ⟨_, rfl⟩
    subst hcg
    go_wp2_with first | (at_builtin; refine wpl_append_own ?a1 (.tmp 37) (.tmp 41) 33 ?a2 (w2.heap.size) 3 i0 ?z 1 8 ?a3 ?a4 ?a5 ?a6 ?a7 ?a8 ?a9 (.slice (some ⟨w2.heap.size, 0, none⟩) 0 0) (0) ([]) ?a10 ?hown (⟨g, 0, none⟩) (i) (cg) (ints G) ?a11 ?a12 ?hnews ?hone ?h63 ?hby ?hbase ?_; (case a1 => rfl); (case a2 => rfl); (case a3 => exact Try.underlying33); (case a4 => exact HI.out); (case a5 => exact hz0); (case a6 => exact hz1); (case a7 => exact hz2); (case a8 => rfl); (case a9 => decide); (case a10 => rfl); (case a11 => rfl); (case a12 => have h := HGI.out; simp [ints, h]); (case hown => exact World.ownsRow_made w2 #[] 0 (Nat.le_refl _) (by unfold maxLen; omega) (by simp)); (case h63 => unfold maxLen; omega); (case hby => omega); (case hnews => intro j u hj; have hc := HCE.out j u hj; rw [World.cell?_alloc_lt _ _ _ (World.block_lt_of_cell? _ _ hc)]; exact hc); (case hone => exact ints_one G); (case hbase => simp); intro A8 c8 w8 hown8 hg8 hsl8; have TY := hid (grown_blk hg8 (HY2.out.alloc (.cells #[] 3)) (by have := HY2.out.lt; simp [Value.ownBlock]; omega)); have qy8 := TY.out.k10; have HG8 := hid hg8; have HO8 := hid (show w8.ownsRow w2.heap.size 3 1 (.slice A8 i c8) i (ints G) from by simpa using hown8); have HK8 := hid (Keep.grown HK8' HG8.out (fun k hk e => by simp [Value.ownBlock] at e; omega)); clear hown8 hg8 hsl8 qy2) | (at_builtin; refine wpl_append_own ?a1 (.tmp 42) (.tmp 44) 33 ?a2 (w2.heap.size) 3 i0 ?z 1 8 ?a3 ?a4 ?a5 ?a6 ?a7 ?a8 ?a9 (.slice A8 i c8) (i) (ints G) ?a10 ?hown (⟨w8.heap.size, 0, none⟩) (1) (1) ([i64 vv]) ?a11 ?a12 ?hnews ?hone ?h63 ?hby ?hbase ?_; (case a1 => rfl); (case a2 => rfl); (case a3 => exact Try.underlying33); (case a4 => exact HI.out); (case a5 => exact hz0); (case a6 => exact hz1); (case a7 => exact hz2); (case a8 => rfl); (case a9 => decide); (case a10 => rfl); (case a11 => rfl); (case a12 => rfl); (case hown => exact ownsRow_keep (S := fun _ => False) HO8.out ((Keep.refl _ _).alloc _) (fun _ _ h => h)); (case h63 => unfold maxLen; omega); (case hby => omega); (case hnews => exact news_at (Blk.made (by simp) rfl)); (case hone => simp [Value.oneCell']); (case hbase => have := HK8.out.size; simp; omega); intro A9 c9 w9 hown9 hg9 hsl9; have TY9 := hid (grown_blk hg9 (TY.out.alloc _) (ownBlock_ne (ownsRow_keep (S := fun _ => False) HO8.out ((Keep.refl _ _).alloc _) (fun _ _ h => h)) (TY.out.alloc (.cells #[i64 vv] 3)) (by decide))); have qy9 := TY9.out.k10; have HK9 := hid (Keep.grown (HK8.out.alloc _) hg9 (fun k hk e => by have := (HO8.out.lt k e).1; omega)); have HO9 := hid hown9; clear hown9 hg9 hsl9 qy8)
    have HK9' := HK9
    obtain ⟨g9, rfl, hgi9, hgz9⟩ := ints_own (l := G ++ [vv]) (show w9.ownsRow w2.heap.size 3 1 (.slice A9 (i + 1) c9) (i + 1) (ints (G ++ [vv])) from by simpa [ints] using HO9.out) (by omega) (by rw [List.length_append, HGI.out]; rfl)
    have HG9 := hid hgi9
    have hgy : ¬ g9 = y := fun e => by have := HY2.out.lt; omega
    have HG91 := hid (show (G ++ [vv]).length = i + 1 by rw [List.length_append, HGI.out]; rfl)
    have HO92 := hid (show w9.ownsRow 0 3 1 (.slice (some ⟨g9, 0, none⟩) (i + 1) c9) (i + 1) (ints (G ++ [vv])) from own_base7 (by simpa [ints] using HO9.out) (Nat.zero_le _))
    generalize hi1 : i + 1 = i1 at *
    have HI1 := hid hi1
    obtain ⟨wa, hwa⟩ : ∃ v, v = w9.setCell ⟨y, 4, none⟩ (.slice (some ⟨g9, 0, none⟩) i1 c9) := ⟨_, rfl⟩
    have hka : Keep (fun k => k = y) w9 wa := by rw [hwa]; exact (Keep.refl _ _).set _ _ (fun _ => rfl)
    have hya := TY9.out.set 4 (.slice (some ⟨g9, 0, none⟩) i1 c9)
    simp only [List.set_cons_succ, List.set_cons_zero] at hya
    rw [← hwa] at hya
    rw [← hwa]
    have HYA := hid hya
    have HGA := hid (hka.ints HG9.out hgy)
    have HOA := hid (ownsRow_keep HO92.out hka (fun k e => by have h9 : g9 = k := (by simpa [Value.ownBlock] using e); omega))
    have HKA := hid ((HK9.out.mono (T := fun k => k = y) (fun _ h => h.elim)).trans hka (fun _ _ h => h))
    have qya := hya.k10
    have y2 : IntKind.i64.wrap (2 * (s : Int)) = 2 * (s : Int) := IntWalk.i64_in _ (by omega)
    have y3 : IntKind.i64.wrap (4 + 2 * (s : Int)) = 4 + 2 * (s : Int) := IntWalk.i64_in _ (by omega)
    clear hwa hka hya qy9 TY9 HO9 HO8 TY HG9 HK8 HK9 HK9' hgi9 HO92 hi1
    go_quiet (fail)
    obtain ⟨wb, hwb⟩ : ∃ v, v = wa.drewN nq := ⟨_, rfl⟩
    rw [← hwb]
    have HYB := hid (show Blk wb y 88 _ from by rw [hwb]; exact HYA.out.drewN nq)
    have HGB := hid (show Ints wb g9 (G ++ [vv]) from by rw [hwb]; exact HGA.out.drewN nq)
    have HOB := hid (show wb.ownsRow 0 3 1 (.slice (some ⟨g9, 0, none⟩) i1 c9) i1 (ints (G ++ [vv])) from by rw [hwb]; exact HOA.out)
    have HKB := hid (show Keep (fun k => k = y) w2 wb from by rw [hwb]; exact HKA.out.drewN nq)
    have qyb := HYB.out.k10
    clear qya HYA HGA HOA HKA hwb
    by_cases hd : i1 = 4 + 2 * s
    · have g1 : ((i1 : Int) == 4 + 2 * (s : Int)) = true := by simp; omega
      have hcl := ref7_closed (G ++ [vv]) i1 hd HYB.out HGB.out hgy HG91.out hs8 hlb
      have HD := hid hd
      clear hd
      obtain ⟨rn, hrn⟩ : ∃ v, v = (if calmB s (G ++ [vv]) = true then gsum s (G ++ [vv]) 8 else if t.left - 1 = 0 then rd (G ++ [vv]) 2 else t.n) := ⟨_, rfl⟩
      obtain ⟨rx, hrx⟩ : ∃ v, v = (if calmB s (G ++ [vv]) = true then true else if t.left - 1 = 0 then false else t.ex) := ⟨_, rfl⟩
      obtain ⟨re, hre⟩ : ∃ v, v = (if calmB s (G ++ [vv]) = true then true else if t.left - 1 = 0 then true else false) := ⟨_, rfl⟩
      rw [← hrn, ← hrx, ← hre] at hcl
      have HR3 := hid (And.intro hrn (And.intro hrx hre))
      have HCL := hid hcl
      clear hrn hrx hre hcl
      go_wp2_with fail
      refine HCL.out.mono ?_
      rintro e wc ⟨rfl, hkc, hyc⟩
      have HYC := hid hyc
      have HKC := hid (HKB.out.trans hkc (fun _ _ h => h))
      have qyc := hyc.k10
      clear hkc hyc qyb HCL
      go_wp2_with fail
      go_ret
      obtain ⟨got', e1, e2⟩ := nNext_done (b := b) HFIN.out (by have h1 := HD.out; have h2 := HI1.out; have h3 := HGI.out; rw [HG.out] at h3; omega) HG.out HVV.out HR3.out
      rw [e1]
      exact ⟨rfl, r7_fin (Ag' := none) ⟨rfl, rfl⟩ HK1.out HM2.out HK2.out (HFA.out y (Or.inl rfl)) HA2.out HL2.out HKC.out ⟨⟨0, 0, HYC.out, fun h => by rw [e2 h]; exact ⟨rfl, World.ownsRow_nil _ _ _ _⟩, fun _ => rfl⟩⟩ (fun k h => by simp [Value.ownBlock] at h)⟩
    · have g1 : ((i1 : Int) == 4 + 2 * (s : Int)) = false := beq_eq_false_iff_ne.2 (by omega)
      have HD := hid hd
      clear hd
      go_wp2_with fail
      go_ret
      have e1 : nNext b s t = { t with L := t.L ++ [⟨1, (wat b s t.got.length : Nat), rd t.W (wat b s t.got.length), 0, false⟩], got := G ++ [vv] } := by
        unfold nNext
        rw [if_neg (by rw [HFIN.out]; decide), if_neg (by have h1 := HD.out; have h2 := HI1.out; have h3 := HGI.out; rw [HG.out] at h3; omega), HG.out, HVV.out]
      rw [e1]
      exact ⟨congrArg (fun b => Ending.returned (Value.bool b)) HFIN.out.symm, r7_fin (Ag' := some ⟨g9, 0, none⟩) ⟨rfl, rfl⟩ HK1.out HM2.out HK2.out (HFA.out y (Or.inl rfl)) HA2.out HL2.out HKB.out ⟨⟨c9, i1, by unfold r7cs; rw [show ({ t with L := t.L ++ [⟨1, (wat b s t.got.length : Nat), rd t.W (wat b s t.got.length), 0, false⟩], got := G ++ [vv] } : SN).fin = false from HFIN.out]; exact HYB.out, fun _ => ⟨HG91.out.symm, HOB.out⟩, fun h => by rw [show ({ t with L := t.L ++ [⟨1, (wat b s t.got.length : Nat), rd t.W (wat b s t.got.length), 0, false⟩], got := G ++ [vv] } : SN).fin = false from HFIN.out] at h; cases h⟩⟩ (fun k h => by have h9 : g9 = k := (by simpa [Value.ownBlock] using h); omega)⟩
end
end Go.Proofs.Ytlkniogapdhcpaa
