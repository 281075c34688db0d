/- package claim: a machine's state, Step, and a machine that is played. -/
import Derived.Test.YtjloccnbcgkmgaaClaimC
import Derived.Test.YtjloccnbcgkmgaaClaimN
namespace Go.Proofs.Ytjloccnbcgkmgaa
open Go.RowKit
set_option linter.unusedVariables false
set_option linter.unusedSimpArgs false
set_option maxRecDepth 100000

/-- a setting -/
structure CC where
  tt : Int
  sr : Int
  g : Int
  lm : Int
  r : Int
  PA : Option Addr
  pn : Nat
  pc : Nat
  LA : Option Addr
  ln : Nat
  lc : Nat
def ccs (C : CC) (K gl c o : Nat) (t : CS) : List Value := [i64 C.tt, i64 C.sr, i64 C.g, i64 C.lm, i64 C.r, i64 (K : Int), .slice C.PA C.pn C.pc, .slice C.LA C.ln C.lc, .slice (some ⟨gl, o, none⟩) (K - t.j) (c - t.j), .bool t.seen, i64 t.saw, i64 t.set, .bool (decide (t.fin ≠ 0)), i64 (if t.fin = 2 then 3 else 0), i64 (t.n : Int), .bool false, i64 0]
/-- a machine, and its tickets -/
def ClAt (C : CC) (K s gl c : Nat) (w : World) (x : Nat) (t : CS) : Prop := ∃ o, (t.j < K → o = t.j) ∧ Blk w x 73 (ccs C K gl c o t)
abbrev CRow (K s gl : Nat) (w : World) : Prop := Ints w gl ((tks K s K).map Int.ofNat)
structure COk (C : CC) (K q c : Nat) : Prop where
  hq : (q : Int) = C.pn * (6 + 2 * C.sr)
  hs : 1 ≤ C.sr ∧ C.sr ≤ 8
  hp : C.pn ≤ 1000
  hc : K ≤ c
theorem ints_far {w : World} {B m a gl : Nat} {lv : Value} {W T : List Int} {L : List Acc} (hm : MemAt B w m a lv W L) (hr : Ints w gl T) (hga : gl ≠ a) : ¬ MF m a lv gl := by
  obtain ⟨cur, h1, h2, _⟩ := hr
  have hb : Blk w gl 3 cur.toList := by unfold Blk; simpa using h1
  rintro (h | h | h)
  · exact hb.ne hm.mem (by decide) h
  · exact hga h
  · exact ownBlock_ne hm.log hb (by decide) h.symm
theorem tks_get (K s j : Nat) (h : j < K) : rd ((tks K s K).map Int.ofNat) j = ((ck K s j : Nat) : Int) := by
  simp [rd, tks, h]
theorem meth_cStep (x : Nat) (w : World) : (method 226 32 (ptr x) "Step").run Try.prog w = .ok (14, ptr x) w := by kernel_rfl
theorem callF_cStep (args : Array Value) (w : World) : (callFunc 14 args).run Try.prog w = .ok (.enter 14 args) w := by go_simp
section
variable {B : Nat} {w : World} {m a x : Nat} {lv : Value} {C : CC} {K s q gl c : Nat}
def ClQ (B : Nat) (w : World) (m a : Nat) (lv : Value) (x : Nat) (C : CC) (K s gl c : Nat) (t : CS) (w' : World) : Prop :=
  ∃ lv', MemAt B w' m a lv' t.W t.L ∧ ClAt C K s gl c w' x t ∧ Keep (fun k => MF m a lv k ∨ k = x) w w' ∧ (∀ k, lv'.ownBlock = some k → lv.ownBlock = some k ∨ w.heap.size ≤ k)
theorem clQ_of {t : CS} {o : Nat} {w' : World} (ho : t.j < K → o = t.j) (h : ClP B w m a lv x (ccs C K gl c o t) t.W t.L w') : ClQ B w m a lv x C K s gl c t w' := by
  obtain ⟨lv', h1, h2, h3, h4⟩ := h
  exact ⟨lv', h1, ⟨o, ho, h2⟩, h3, h4⟩
set_option maxHeartbeats 4000000 in
theorem clS_Step (t : CS) (hm : MemAt B w m a lv t.W t.L) (hx : ClAt C K s gl c w x t) (hr : CRow K s gl w) (hga : gl ≠ a) (hi : CInv K q t) (hk : COk C K q c) (hL : t.L.length ≤ 1000000000) :
    Calls Try.prog 14 #[ptr x, ptr m] w fun e w' => e = .returned (.bool (cStp K s q t).2) ∧ ClQ B w m a lv x C K s gl c (cStp K s q t).1 w' := by
  obtain ⟨o, ho, hx⟩ := hx
  show Calls _ _ _ _ (fun e w' => e = .returned (.bool (decide ((cNext K s q t).fin ≠ 0))) ∧ ClQ B w m a lv x C K s gl c (cNext K s q t) w')
  by_cases h0 : t.fin = 0
  · have hj := hi.jb (by omega)
    obtain rfl := ho hj
    have hck := ck_lt (s := s) (j := t.j) (show 1 ≤ K by omega)
    have hcell := hr.cell t.j (by simpa [tks_length] using hj)
    rw [tks_get K s t.j hj] at hcell
    have hkb := hi.kb
    have hln := hi.ln
    have hp : ∀ w', Calls Try.prog 20 #[.agg #[i64 C.tt, i64 C.sr, i64 C.g, i64 C.lm, i64 C.r, i64 (K : Int), .slice C.PA C.pn C.pc, .slice C.LA C.ln C.lc], i64 ((ck K s t.j : Nat) : Int)] w' (Ret (i64 ((q + 2 * ck K s t.j : Nat) : Int)) w') := by
      intro w'
      have h := plan_Ticket C.tt C.sr C.g C.lm C.r (K : Int) C.PA C.pn C.pc C.LA C.ln C.lc ((ck K s t.j : Nat) : Int) w' hk.hs.1 hk.hs.2 (by omega) (by omega) (by have := hk.hp; omega)
      rw [← hk.hq, show (q : Int) + 2 * ((ck K s t.j : Nat) : Int) = ((q + 2 * ck K s t.j : Nat) : Int) by push_cast; rfl] at h
      exact h
    have hc := hk.hc
    have hn1 : 1 ≤ K - t.j := by omega
    have hn2 : K - t.j ≤ c - t.j := by omega
    have hwi : q + 2 * ck K s t.j < t.W.length := by omega
    have e1 : ∀ o, ccs C K gl c o t = [i64 C.tt, i64 C.sr, i64 C.g, i64 C.lm, i64 C.r, i64 (K : Int), .slice C.PA C.pn C.pc, .slice C.LA C.ln C.lc, .slice (some ⟨gl, o, none⟩) (K - t.j) (c - t.j), .bool t.seen, i64 t.saw, i64 0, .bool false, i64 0, i64 0, .bool false, i64 0] := by
      intro o
      simp [ccs, h0, (hi.z h0).1, (hi.z h0).2]
    rw [e1] at hx
    have eN : ∀ u : CS, u.fin = 0 → u.j = t.j → u.set = 0 → u.n = 0 → [i64 C.tt, i64 C.sr, i64 C.g, i64 C.lm, i64 C.r, i64 (K : Int), .slice C.PA C.pn C.pc, .slice C.LA C.ln C.lc, .slice (some ⟨gl, if c - t.j = 1 then t.j else t.j + 1, none⟩) (K - t.j - 1) (c - t.j - 1), .bool false, i64 u.saw, i64 0, .bool (decide (K - t.j = 1)), i64 (if K - t.j = 1 then 3 else 0), i64 0, .bool false, i64 0] = ccs C K gl c (if c - t.j = 1 then t.j else t.j + 1) (cNx K u) := by
      intro u hu0 huj hus hun
      unfold ccs cNx
      simp only [huj, hus, hun]
      rw [show K - (t.j + 1) = K - t.j - 1 by omega, show c - (t.j + 1) = c - t.j - 1 by omega]
      by_cases hl : t.j + 1 = K
      · have hl' : K - t.j = 1 := by omega
        simp [hl, hl']
      · have hl' : ¬ K - t.j = 1 := by omega
        simp [hl, hl']
    have oN : ∀ u : CS, u.j = t.j → (cNx K u).j < K → (if c - t.j = 1 then t.j else t.j + 1) = (cNx K u).j := by
      intro u huj hlt
      simp only [cNx, huj] at *
      rw [if_neg (by omega)]
    have fN : ∀ u : CS, u.j = t.j → decide ((cNx K u).fin ≠ 0) = decide (K - t.j = 1) := by
      intro u huj
      simp only [cNx, huj]
      by_cases hl : t.j + 1 = K
      · have hl' : K - t.j = 1 := by omega
        simp [hl, hl']
      · have hl' : ¬ K - t.j = 1 := by omega
        simp [hl, hl']
    cases hs : t.seen with
    | false =>
      rw [hs] at hx
      by_cases hst : st10 (rd t.W (q + 2 * ck K s t.j)) = 0
      · have e2 : cNext K s q t = cLook K s q t := by unfold cNext; rw [if_pos h0, if_pos hs, if_pos hst]
        rw [e2]
        refine (claim_look_free (q + 2 * ck K s t.j) gl t.j (K - t.j) (c - t.j) t.saw _ hm hx hn1 hn2 hwi hL hcell hst hp).mono ?_
        rintro e w' ⟨rfl, h⟩
        refine ⟨by simp [cLook, h0], clQ_of (o := t.j) (fun _ => rfl) ?_⟩
        have e3 : ccs C K gl c t.j (cLook K s q t) = [i64 C.tt, i64 C.sr, i64 C.g, i64 C.lm, i64 C.r, i64 (K : Int), .slice C.PA C.pn C.pc, .slice C.LA C.ln C.lc, .slice (some ⟨gl, t.j, none⟩) (K - t.j) (c - t.j), .bool true, i64 (rd t.W (q + 2 * ck K s t.j)), i64 0, .bool false, i64 0, i64 0, .bool false, i64 0] := by
          simp [ccs, cLook, h0, (hi.z h0).1, (hi.z h0).2]
        rw [e3]
        exact h
      · have e2 : cNext K s q t = cNx K (cLook K s q t) := by unfold cNext; rw [if_pos h0, if_pos hs, if_neg hst]
        rw [e2]
        refine (claim_look_next (q + 2 * ck K s t.j) gl t.j (K - t.j) (c - t.j) t.saw _ hm hx hn1 hn2 hwi hL hcell hst hp).mono ?_
        rintro e w' ⟨rfl, h⟩
        refine ⟨by rw [fN (cLook K s q t) rfl], clQ_of (oN (cLook K s q t) rfl) ?_⟩
        rw [← eN (cLook K s q t) h0 rfl (hi.z h0).1 (hi.z h0).2]
        exact h
    | true =>
      rw [hs] at hx
      by_cases hst : rd t.W (q + 2 * ck K s t.j) = t.saw
      · have e2 : cNext K s q t = { cTake K s q t with fin := 1, n := ck K s t.j, set := pNext6 t.saw 1 } := by unfold cNext; rw [if_pos h0, if_neg (by simp [hs]), if_pos hst]
        rw [e2]
        have hq' : (rd t.W (q + 2 * ck K s t.j) == t.saw) = true := by simpa using hst
        refine (claim_take (q + 2 * ck K s t.j) gl t.j (K - t.j) (c - t.j) t.saw ((ck K s t.j : Nat) : Int) [] (casW t.W (q + 2 * ck K s t.j) t.saw (pNext6 t.saw 1)) (t.L ++ [⟨3, ((q + 2 * ck K s t.j : Nat) : Int), t.saw, pNext6 t.saw 1, true⟩]) true (.slice (some ⟨gl, t.j, none⟩) (K - t.j) (c - t.j)) true (pNext6 t.saw 1) 0 ((ck K s t.j : Nat) : Int) hm hx hn1 hcell hp
          (fun w1 h1 h2 h3 => claim_take_yes (w := w1) (q + 2 * ck K s t.j) gl t.j (K - t.j) (c - t.j) t.saw ((ck K s t.j : Nat) : Int) h1 h2 hn1 hn2 hwi hL hq' (ints_far hm hr hga) h3)).mono ?_
        rintro e w' ⟨rfl, h⟩
        refine ⟨by simp, clQ_of (o := t.j) (fun _ => rfl) ?_⟩
        have e3 : ccs C K gl c t.j { cTake K s q t with fin := 1, n := ck K s t.j, set := pNext6 t.saw 1 } = [i64 C.tt, i64 C.sr, i64 C.g, i64 C.lm, i64 C.r, i64 (K : Int), .slice C.PA C.pn C.pc, .slice C.LA C.ln C.lc, .slice (some ⟨gl, t.j, none⟩) (K - t.j) (c - t.j), .bool true, i64 t.saw, i64 (pNext6 t.saw 1), .bool true, i64 0, i64 ((ck K s t.j : Nat) : Int), .bool false, i64 0] := by
          simp [ccs, cTake, hs]
        have e4 : ({ cTake K s q t with fin := 1, n := ck K s t.j, set := pNext6 t.saw 1 } : CS).L = t.L ++ [⟨3, ((q + 2 * ck K s t.j : Nat) : Int), t.saw, pNext6 t.saw 1, true⟩] := by
          show t.L ++ [⟨3, ((q + 2 * ck K s t.j : Nat) : Int), t.saw, pNext6 t.saw 1, rd t.W (q + 2 * ck K s t.j) == t.saw⟩] = _
          rw [hq']
        rw [e3, e4]
        exact h
      · have e2 : cNext K s q t = cNx K (cTake K s q t) := by unfold cNext; rw [if_pos h0, if_neg (by simp [hs]), if_neg hst]
        rw [e2]
        have hq' : (rd t.W (q + 2 * ck K s t.j) == t.saw) = false := by simpa using hst
        refine (claim_take (q + 2 * ck K s t.j) gl t.j (K - t.j) (c - t.j) t.saw ((ck K s t.j : Nat) : Int) [] (casW t.W (q + 2 * ck K s t.j) t.saw (pNext6 t.saw 1)) (t.L ++ [⟨3, ((q + 2 * ck K s t.j : Nat) : Int), t.saw, pNext6 t.saw 1, false⟩]) (decide (K - t.j = 1)) (.slice (some ⟨gl, if c - t.j = 1 then t.j else t.j + 1, none⟩) (K - t.j - 1) (c - t.j - 1)) false 0 (if K - t.j = 1 then 3 else 0) 0 hm hx hn1 hcell hp
          (fun w1 h1 h2 h3 => claim_take_no (w := w1) (q + 2 * ck K s t.j) gl t.j (K - t.j) (c - t.j) t.saw h1 h2 hn1 hn2 hwi hL hq')).mono ?_
        rintro e w' ⟨rfl, h⟩
        refine ⟨by rw [fN (cTake K s q t) rfl], clQ_of (oN (cTake K s q t) rfl) ?_⟩
        rw [← eN (cTake K s q t) h0 rfl (hi.z h0).1 (hi.z h0).2]
        have e4 : (cNx K (cTake K s q t)).L = t.L ++ [⟨3, ((q + 2 * ck K s t.j : Nat) : Int), t.saw, pNext6 t.saw 1, false⟩] := by
          show t.L ++ [⟨3, ((q + 2 * ck K s t.j : Nat) : Int), t.saw, pNext6 t.saw 1, rd t.W (q + 2 * ck K s t.j) == t.saw⟩] = _
          rw [hq']
        rw [e4]
        exact h
  · rw [cNext_over h0]
    have e1 : decide (t.fin ≠ 0) = true := by simpa using h0
    have hx1 := hx
    unfold ccs at hx1
    rw [e1] at hx1
    refine (claim_Step_end (m := m) hx1).mono ?_
    rintro e w' ⟨rfl, rfl⟩
    exact ⟨by rw [e1], lv, hm, ⟨o, ho, hx⟩, Keep.refl _ _, fun _ h => Or.inl h⟩
end
end Go.Proofs.Ytjloccnbcgkmgaa
