/- breadlineref11: a machine's state, New, and a machine that is played. -/
import Derived.Test.YtjloccnbcgkmgaaRefElevenB
import Derived.Test.YtjloccnbcgkmgaaRefPlayEleven
import Derived.Test.YtjloccnbcgkmgaaRefOwn
import Derived.Test.YtjloccnbcgkmgaaLawThree
namespace Go.Proofs.Ytjloccnbcgkmgaa
open Go.RowKit
set_option linter.unusedVariables false
set_option linter.unusedSimpArgs false
set_option maxRecDepth 100000
def rcs11 (C : CC) (K s : Nat) (t : CS) : List Value := [i64 C.tt, i64 C.sr, i64 C.g, i64 C.lm, i64 C.r, i64 (K : Int), .slice C.PA C.pn C.pc, .slice C.LA C.ln C.lc, i64 (s : Int), i64 (t.j : Int), .bool t.seen, i64 t.saw, i64 t.set, .bool (decide (t.fin ≠ 0)), i64 (if t.fin = 2 then 3 else 0), i64 (t.n : Int), .bool false, i64 0]
section
variable {B : Nat} {w : World} {m y : Nat} {A : Option Addr} {ca : Nat} {lv : Value} {C : CC} {K s q : Nat}
set_option maxHeartbeats 4000000 in
theorem r11_Step (t : CS) (hm : RefAt B w m A ca lv t.W t.L) (hy : Blk w y 91 (rcs11 C K s t)) (hi : CInv K q t) (hk : COk C K q K) (hs : s ≤ 1000000) (hL : t.L.length ≤ 1000000000) :
    Calls Try.prog 51 #[ptr y, ptr m] w fun e w' => e = .returned (.bool (cStp K s q t).2) ∧ R11P B w m y A lv (rcs11 C K s (cStp K s q t).1) (cStp K s q t).1.W (cStp K s q t).1.L w' := by
  show Calls _ _ _ _ (fun e w' => e = .returned (.bool (decide ((cNext K s q t).fin ≠ 0))) ∧ R11P B w m y A lv (rcs11 C K s (cNext K s q t)) (cNext K s q t).W (cNext K s q t).L w')
  by_cases h0 : t.fin = 0
  · have hj := hi.jb (by omega)
    have hck := ck_lt (s := s) (j := t.j) (show 1 ≤ K by omega)
    have hkb := hi.kb
    have hln := hi.ln
    have hwl := hi.wl
    have hp : ∀ w', Calls Try.prog 16 #[.agg #[i64 C.tt, i64 C.sr, i64 C.g, i64 C.lm, i64 C.r, i64 (K : Int), .slice C.PA C.pn C.pc, .slice C.LA C.ln C.lc], i64 ((ck K s t.j : Nat) : Int)] w' (Ret (i64 ((q + 2 * ck K s t.j : Nat) : Int)) w') := by
      intro w'
      have h := ref_Ticket C.tt C.sr C.g C.lm C.r (K : Int) C.PA C.pn C.pc C.LA C.ln C.lc ((ck K s t.j : Nat) : Int) w' hk.hs.1 hk.hs.2 (by omega) (by omega) (by have := hk.hp; omega)
      rw [← hk.hq, show (q : Int) + 2 * ((ck K s t.j : Nat) : Int) = ((q + 2 * ck K s t.j : Nat) : Int) by push_cast; rfl] at h
      exact h
    have hwi : q + 2 * ck K s t.j < t.W.length := by omega
    have e1 : rcs11 C K s t = [i64 C.tt, i64 C.sr, i64 C.g, i64 C.lm, i64 C.r, i64 (K : Int), .slice C.PA C.pn C.pc, .slice C.LA C.ln C.lc, i64 (s : Int), i64 (t.j : Int), .bool t.seen, i64 t.saw, i64 0, .bool false, i64 0, i64 0, .bool false, i64 0] := by
      simp [rcs11, h0, (hi.z h0).1, (hi.z h0).2]
    rw [e1] at hy
    have eN : ∀ u : CS, u.fin = 0 → u.j = t.j → u.set = 0 → u.n = 0 → [i64 C.tt, i64 C.sr, i64 C.g, i64 C.lm, i64 C.r, i64 (K : Int), .slice C.PA C.pn C.pc, .slice C.LA C.ln C.lc, i64 (s : Int), i64 ((t.j + 1 : Nat) : Int), .bool false, i64 u.saw, i64 0, .bool (decide (t.j + 1 = K)), i64 (if t.j + 1 = K then 3 else 0), i64 0, .bool false, i64 0] = rcs11 C K s (cNx K u) := by
      intro u hu0 huj hus hun
      unfold rcs11 cNx
      simp only [huj, hus, hun]
      by_cases hl : t.j + 1 = K
      · simp [hl]
      · simp [hl]
    have fN : ∀ u : CS, u.j = t.j → decide ((cNx K u).fin ≠ 0) = decide (t.j + 1 = K) := by
      intro u huj
      simp only [cNx, huj]
      by_cases hl : t.j + 1 = K
      · simp [hl]
      · simp [hl]
    cases hs' : t.seen with
    | false =>
      rw [hs'] at hy
      by_cases hst : st10 (rd t.W (q + 2 * ck K s t.j)) = 0
      · have e2 : cNext K s q t = cLook K s q t := by unfold cNext; rw [if_pos h0, if_pos hs', if_pos hst]
        rw [e2]
        refine (r11_look_free (q + 2 * ck K s t.j) t.j t.saw hm hy hj hkb.2 hs hwi hL hst hp).mono ?_
        rintro e w' ⟨rfl, h⟩
        refine ⟨by simp [cLook, h0], ?_⟩
        have e3 : rcs11 C K s (cLook K s q t) = [i64 C.tt, i64 C.sr, i64 C.g, i64 C.lm, i64 C.r, i64 (K : Int), .slice C.PA C.pn C.pc, .slice C.LA C.ln C.lc, i64 (s : Int), i64 (t.j : Int), .bool true, i64 (rd t.W (q + 2 * ck K s t.j)), i64 0, .bool false, i64 0, i64 0, .bool false, i64 0] := by
          simp [rcs11, cLook, h0, (hi.z h0).1, (hi.z h0).2]
        rw [e3]
        exact h
      · have e2 : cNext K s q t = cNx K (cLook K s q t) := by unfold cNext; rw [if_pos h0, if_pos hs', if_neg hst]
        rw [e2]
        refine (r11_look_next (q + 2 * ck K s t.j) t.j t.saw hm hy hj hkb.2 hs hwi hL hst hp).mono ?_
        rintro e w' ⟨rfl, h⟩
        refine ⟨by rw [fN (cLook K s q t) rfl], ?_⟩
        rw [← eN (cLook K s q t) h0 rfl (hi.z h0).1 (hi.z h0).2]
        exact h
    | true =>
      rw [hs'] at hy
      by_cases hst : rd t.W (q + 2 * ck K s t.j) = t.saw
      · have e2 : cNext K s q t = { cTake K s q t with fin := 1, n := ck K s t.j, set := pNext6 t.saw 1 } := by unfold cNext; rw [if_pos h0, if_neg (by simp [hs']), if_pos hst]
        rw [e2]
        have hq' : (rd t.W (q + 2 * ck K s t.j) == t.saw) = true := by simpa using hst
        refine (r11_take_yes (q + 2 * ck K s t.j) t.j t.saw hm hy hj hkb.2 hs hwi (by omega) hL hq' hp).mono ?_
        rintro e w' ⟨rfl, h⟩
        refine ⟨by simp, ?_⟩
        have e3 : rcs11 C K s { cTake K s q t with fin := 1, n := ck K s t.j, set := pNext6 t.saw 1 } = [i64 C.tt, i64 C.sr, i64 C.g, i64 C.lm, i64 C.r, i64 (K : Int), .slice C.PA C.pn C.pc, .slice C.LA C.ln C.lc, i64 (s : Int), i64 (t.j : Int), .bool true, i64 t.saw, i64 (pNext6 t.saw 1), .bool true, i64 0, i64 ((ck K s t.j : Nat) : Int), .bool false, i64 0] := by
          simp [rcs11, cTake, hs']
        have e4 : ({ cTake K s q t with fin := 1, n := ck K s t.j, set := pNext6 t.saw 1 } : CS).L = t.L ++ [⟨3, ((q + 2 * ck K s t.j : Nat) : Int), t.saw, pNext6 t.saw 1, true⟩] := by
          show t.L ++ [⟨3, ((q + 2 * ck K s t.j : Nat) : Int), t.saw, pNext6 t.saw 1, rd t.W (q + 2 * ck K s t.j) == t.saw⟩] = _
          rw [hq']
        rw [e3, e4]
        exact h
      · have e2 : cNext K s q t = cNx K (cTake K s q t) := by unfold cNext; rw [if_pos h0, if_neg (by simp [hs']), if_neg hst]
        rw [e2]
        have hq' : (rd t.W (q + 2 * ck K s t.j) == t.saw) = false := by simpa using hst
        refine (r11_take_no (q + 2 * ck K s t.j) t.j t.saw hm hy hj hkb.2 hs hwi (by omega) hL hq' hp).mono ?_
        rintro e w' ⟨rfl, h⟩
        refine ⟨by rw [fN (cTake K s q t) rfl], ?_⟩
        rw [← eN (cTake K s q t) h0 rfl (hi.z h0).1 (hi.z h0).2]
        have e4 : (cNx K (cTake K s q t)).L = t.L ++ [⟨3, ((q + 2 * ck K s t.j : Nat) : Int), t.saw, pNext6 t.saw 1, false⟩] := by
          show t.L ++ [⟨3, ((q + 2 * ck K s t.j : Nat) : Int), t.saw, pNext6 t.saw 1, rd t.W (q + 2 * ck K s t.j) == t.saw⟩] = _
          rw [hq']
        rw [e4]
        exact h
  · rw [cNext_over h0]
    have e1 : decide (t.fin ≠ 0) = true := by simpa using h0
    have hy1 := hy
    unfold rcs11 at hy1
    rw [e1] at hy1
    refine (r11_step_end (m := m) hy1).mono ?_
    rintro e w' ⟨rfl, rfl⟩
    exact ⟨by rw [e1], A, ca, lv, hm, hy, Keep.refl _ _, fun _ h => Or.inl h, fun _ h => Or.inl h⟩
set_option maxHeartbeats 400000 in
theorem r11_Ans (t : CS) (hy : Blk w y 91 (rcs11 C K s t)) : Calls Try.prog 27 #[ptr y] w (Ret (clAns t) w) := by
  have qy := (show Blk w y 91 [i64 C.tt, i64 C.sr, i64 C.g, i64 C.lm, i64 C.r, i64 (K : Int), .slice C.PA C.pn C.pc, .slice C.LA C.ln C.lc, i64 (s : Int), i64 (t.j : Int), .bool t.seen, i64 t.saw, i64 t.set, .bool (decide (t.fin ≠ 0)), i64 (if t.fin = 2 then 3 else 0), i64 (t.n : Int), .bool false, i64 0] from hy).k18
  show Calls _ _ _ _ (Ret (.agg #[i64 (if t.fin = 2 then 3 else 0), i64 (t.n : Int), .bool false, i64 0]) w)
  generalize (if t.fin = 2 then (3 : Int) else 0) = er at *
  generalize decide (t.fin ≠ 0) = en at *
  clear hy
  go_enter Try.func27, Try.ntmps27
  go_wp2
  exact bodyPost_ret (v := .agg #[i64 er, i64 (t.n : Int), .bool false, i64 0]) (by simp [results, Try.results27, go_sem]) rfl ⟨rfl, (Keep.refl _ _).alloc _⟩
set_option maxHeartbeats 400000 in
theorem r11_Word (t : CS) (hy : Blk w y 91 (rcs11 C K s t)) : Calls Try.prog 28 #[ptr y] w (Ret (i64 t.set) w) := by
  have qy := (show Blk w y 91 [i64 C.tt, i64 C.sr, i64 C.g, i64 C.lm, i64 C.r, i64 (K : Int), .slice C.PA C.pn C.pc, .slice C.LA C.ln C.lc, i64 (s : Int), i64 (t.j : Int), .bool t.seen, i64 t.saw, i64 t.set, .bool (decide (t.fin ≠ 0)), i64 (if t.fin = 2 then 3 else 0), i64 (t.n : Int), .bool false, i64 0] from hy).k18
  generalize (if t.fin = 2 then (3 : Int) else 0) = er at *
  generalize decide (t.fin ≠ 0) = en at *
  clear hy
  go_enter Try.func28, Try.ntmps28
  go_wp2_with fail
  go_ret
  exact ⟨rfl, Keep.refl _ _⟩
set_option maxHeartbeats 2000000 in
theorem r11_New0 (t s g l r : Int) (K st : Nat) (P L : List Int) (pb po lb lo pc lc : Nat) (w : World) (hp : P.length ≤ 1000) (hl : L.length ≤ 1000)
    (hP : ∀ i, i < P.length → w.cell? ⟨pb, po + i, none⟩ = some (i64 (rd P i))) (hL : ∀ i, i < L.length → w.cell? ⟨lb, lo + i, none⟩ = some (i64 (rd L i))) :
    Calls Try.prog 25 #[.agg #[i64 t, i64 s, i64 g, i64 l, i64 r, i64 (K : Int), .slice (some ⟨pb, po, none⟩) P.length pc, .slice (some ⟨lb, lo, none⟩) L.length lc], i64 (st : Int)] w fun e w' => ∃ y PA' pc' LA' lc', e = .returned (ptr y) ∧ w.heap.size ≤ y ∧ Keep0 w w' ∧ ∀ W L0, Blk w' y 91 (rcs11 ⟨t, s, g, l, r, PA', P.length, pc', LA', L.length, lc'⟩ K st ⟨W, L0, 0, false, 0, 0, 0, 0⟩) := by
  have HOW := hid (ref_Own t s g l r (K : Int) P L pb po lb lo pc lc (w.alloc (.cells #[i64 t, i64 s, i64 g, i64 l, i64 r, i64 (K : Int), .slice (some ⟨pb, po, none⟩) P.length pc, .slice (some ⟨lb, lo, none⟩) L.length lc] 24)) hp hl (fun i hi => by rw [World.cell?_alloc_lt _ _ _ (World.block_lt_of_cell? _ _ (hP i hi))]; exact hP i hi) (fun i hi => by rw [World.cell?_alloc_lt _ _ _ (World.block_lt_of_cell? _ _ (hL i hi))]; exact hL i hi))
  have HK0 : Hid (Keep0 w (w.alloc (.cells #[i64 t, i64 s, i64 g, i64 l, i64 r, i64 (K : Int), .slice (some ⟨pb, po, none⟩) P.length pc, .slice (some ⟨lb, lo, none⟩) L.length lc] 24))) := hid ((Keep.refl _ _).alloc _)
  clear hP hL
  go_enter Try.func25, Try.ntmps25
  go_wp2_with fail
  refine HOW.out.mono ?_
  rintro e w1 ⟨PA, pc', LA, lc', rfl, hk⟩
  have HK1 : Hid (Keep0 w w1) := hid (Keep0.step HK0.out hk)
  clear hk
  go_wp2_with fail
  go_ret
  exact ⟨_, PA, pc', LA, lc', rfl, HK1.out.size, HK1.out.alloc _, fun W L0 => Blk.made rfl rfl⟩
theorem r11_New (t s g l r : Int) (K st : Nat) (P L : List Int) (PA : Option Addr) (pc : Nat) (LA : Option Addr) (lc : Nat) (w : World) (hP : IntsAt w PA P) (hL : IntsAt w LA L) (hp : 1 ≤ P.length ∧ P.length ≤ 1000) (hl : 1 ≤ L.length ∧ L.length ≤ 1000) :
    Calls Try.prog 25 #[.agg #[i64 t, i64 s, i64 g, i64 l, i64 r, i64 (K : Int), .slice PA P.length pc, .slice LA L.length lc], i64 (st : Int)] w fun e w' => ∃ y PA' pc' LA' lc', e = .returned (ptr y) ∧ w.heap.size ≤ y ∧ Keep0 w w' ∧ ∀ W L0, Blk w' y 91 (rcs11 ⟨t, s, g, l, r, PA', P.length, pc', LA', L.length, lc'⟩ K st ⟨W, L0, 0, false, 0, 0, 0, 0⟩) := by
  obtain ⟨pb, po, rfl, hP2⟩ := hP.cell (by omega)
  obtain ⟨lb, lo, rfl, hL2⟩ := hL.cell (by omega)
  exact r11_New0 t s g l r K st P L pb po lb lo pc lc w hp.2 hl.2 hP2 hL2
def RSys11 (B m y : Nat) (C : CC) (K s q len : Nat) (A0 : Option Addr) (lv0 : Value) (N : Nat) (k : Nat) (w : World) (t : CS) : Prop :=
  ∃ A1 c1 lv1, RefAt B w m A1 c1 lv1 t.W t.L ∧ Blk w y 91 (rcs11 C K s t) ∧ (∀ c, (Value.slice A1 0 0).ownBlock = some c → (Value.slice A0 0 0).ownBlock = some c ∨ N ≤ c) ∧ (∀ c, lv1.ownBlock = some c → lv0.ownBlock = some c ∨ N ≤ c) ∧ t.W.length = len ∧ t.L.length ≤ k ∧ CInv K q t ∧ N ≤ w.heap.size
set_option maxHeartbeats 2000000 in
theorem play_r11 (t : CS) (l : List Pk) (A0 : Option Addr) (kb ko c most : Nat) (hm : RefAt B w m A ca lv t.W t.L) (hy : Blk w y 91 (rcs11 C K s t)) (hi : CInv K q t) (hC : COk C K q K) (hs : s ≤ 1000000) (hL : t.L = [])
    (hmost : most ≤ 1000) (hl : l.length ≤ 1000000) (hA0 : 0 < l.length → A0 = some ⟨kb, ko, none⟩ ∧ kb < w.heap.size ∧ kb ≠ m ∧ kb ≠ y ∧ lv.ownBlock ≠ some kb)
    (hcells : ∀ i (h : i < l.length), w.cell? ⟨kb, ko + i * 3, none⟩ = some (i64 l[i].at_) ∧ w.cell? ⟨kb, ko + i * 3 + 1, none⟩ = some (i64 l[i].w) ∧ w.cell? ⟨kb, ko + i * 3 + 2, none⟩ = some (i64 l[i].x)) :
    Calls Try.prog 26 #[ptr m, ptr y, .slice A0 l.length c, i64 most] w fun e w' =>
      e = .returned (.tuple #[i64 (playF (cStp K s q) cPk t.W.length l most 0 t).2.1, .bool (playF (cStp K s q) cPk t.W.length l most 0 t).2.2]) ∧
      (∃ i, RSys11 B m y C K s q t.W.length A lv w.heap.size i w' (playF (cStp K s q) cPk t.W.length l most 0 t).1) ∧ Keep (fun k => (k = m ∨ k = y ∨ lv.ownBlock = some k) ∨ w.heap.size ≤ k) w w' := by
  have hW : t.W.length ≤ 10000 := hi.wl
  refine ref11_Play (RSys11 B m y C K s q t.W.length A lv w.heap.size) (cStp K s q) cPk t.W.length y m (fun k => k = m ∨ k = y ∨ lv.ownBlock = some k) w.heap.size l A0 kb ko c most w t (by omega) hl (by omega) (Nat.le_refl _) ?_ hcells ?_ ?_ ?_ ?_ ?_
  · intro h0
    obtain ⟨e, hb, hbm, hby, hbl⟩ := hA0 h0
    refine ⟨e, hb, ?_⟩
    rintro (h | h | h)
    · exact hbm h
    · exact hby h
    · exact hbl h
  · rintro i w1 x1 ⟨A1, c1, lv1, h1, _, _, _, hlen, _⟩
    exact ⟨A1, c1, lv1, by rw [← hlen]; exact h1.mem⟩
  · rintro i w1 w2 x1 ⟨A1, c1, lv1, h1, h2, h4, h5, h6, h7, h8, h9⟩ hk
    exact ⟨A1, c1, lv1, h1.keep hk (fun _ _ h => h), hk.blk h2 (fun h => h), h4, h5, h6, h7, h8, Nat.le_trans h9 hk.size⟩
  · rintro i w1 x1 j z ⟨p, hp, rfl, rfl⟩ ⟨A1, c1, lv1, h1, h2, h4, h5, h6, h7, h8, h9⟩ hi0 hi1
    refine (ref_PokeP p.w p.x h1 hi0 (by rw [h6]; exact hi1) (by omega)).mono ?_
    rintro e w2 ⟨rfl, A2, c2, lv2, g1, g2, g3, g4⟩
    refine ⟨rfl, ⟨A2, c2, lv2, g1, g2.blk h2 (r11_far h1 h2), ?_, ?_, by simp [cPk, h6], h7, h8.poke _ _, Nat.le_trans h9 g2.size⟩, g2.mono ?_⟩
    · intro b hb
      rcases g3 b hb with h | h
      · exact h4 b h
      · exact Or.inr (Nat.le_trans h9 h)
    · intro b hb
      rcases g4 b hb with h | h
      · exact h5 b h
      · exact Or.inr (Nat.le_trans h9 h)
    · rintro b (h | h)
      · exact Or.inl (Or.inl h)
      · rcases h5 b h with h | h
        · exact Or.inl (Or.inr (Or.inr h))
        · exact Or.inr h
  · rintro i w1 x1 hn ⟨A1, c1, lv1, h1, h2, h4, h5, h6, h7, h8, h9⟩
    refine (r11_Step x1 h1 h2 h8 hC hs (by omega)).mono ?_
    rintro e w2 ⟨rfl, A2, c2, lv2, g1, g2, g4, g5, g6⟩
    refine ⟨rfl, ⟨A2, c2, lv2, g1, g2, ?_, ?_, (cNext_len x1).trans h6, ?_, h8.step, Nat.le_trans h9 g4.size⟩, g4.mono ?_⟩
    · intro b hb
      rcases g5 b hb with h | h
      · exact h4 b h
      · exact Or.inr (Nat.le_trans h9 h)
    · intro b hb
      rcases g6 b hb with h | h
      · exact h5 b h
      · exact Or.inr (Nat.le_trans h9 h)
    · show (cNext K s q x1).L.length ≤ _
      by_cases h77 : x1.fin = 0
      · rw [cNext_log x1 h77]; omega
      · rw [cNext_over h77]; omega
    · rintro b ((h | h) | h)
      · exact Or.inl (Or.inl h)
      · rcases h5 b h with h | h
        · exact Or.inl (Or.inr (Or.inr h))
        · exact Or.inr h
      · exact Or.inl (Or.inr (Or.inl h))
  · exact ⟨A, ca, lv, hm, hy, fun _ h => Or.inl h, fun _ h => Or.inl h, rfl, by rw [hL]; simp, hi, Nat.le_refl _⟩
end
end Go.Proofs.Ytjloccnbcgkmgaa
