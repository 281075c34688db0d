/- package snap and breadlineref07 over things that lie apart. -/
import Derived.Test.YtlkniogapdhcpaaSepAA
import Derived.Test.YtlkniogapdhcpaaRefSevenZ
namespace Go.Proofs.Ytlkniogapdhcpaa
open Go.RowKit
set_option linter.unusedVariables false
set_option linter.unusedSimpArgs false
set_option maxRecDepth 100000
set_option maxHeartbeats 1000000 in
theorem ref7_SL {τ : Type} (Mt : τ → Ass) (Inv : Nat → τ → Prop) (stp : τ → τ × Bool) (pk : τ → Nat → Int → τ) (len : Nat) (x m : Nat) (l : List Pk) (A0 : Option Addr) (kb ko c most : Nat) (w : World) (R : Nat → Prop) (t : τ)
    (hmost : most ≤ 1000000) (hl : l.length ≤ 1000000) (hlen : len ≤ 1000000) (ht : (Mt t).At R w) (hi : Inv 0 t) (hA0 : 0 < l.length → A0 = some ⟨kb, ko, none⟩ ∧ kb < w.heap.size ∧ ¬ R kb)
    (hcells : ∀ i (h : i < l.length), w.cell? ⟨kb, ko + i * 3, none⟩ = some (i64 l[i].at_) ∧ w.cell? ⟨kb, ko + i * 3 + 1, none⟩ = some (i64 l[i].w) ∧ w.cell? ⟨kb, ko + i * 3 + 2, none⟩ = some (i64 l[i].x))
    (hmem : ∀ n R w t, (Mt t).At R w → Inv n t → ∃ A c lv, Blk w m 53 [.slice A len c, lv])
    (hipk : ∀ n t i x, (∃ p ∈ l, p.w.toNat = i ∧ p.x = x) → i < len → Inv n t → Inv n (pk t i x)) (hist : ∀ n t, n < most → Inv n t → Inv (n + 1) (stp t).1)
    (hpoke : ∀ n R w t (i x : Int), (∃ p ∈ l, p.w = i ∧ p.x = x) → (Mt t).At R w → Inv n t → 0 ≤ i → i < len → Calls Try.prog 37 #[ptr m, i64 i, i64 x] w fun e w' => e = .returned (.tuple #[]) ∧ Tr (Mt (pk t i.toNat x)) R w w')
    (hstep : ∀ n R w t, n < most → (Mt t).At R w → Inv n t → Calls Try.prog 38 #[ptr x, ptr m] w fun e w' => e = .returned (.bool (stp t).2) ∧ Tr (Mt (stp t).1) R w w') :
    Calls Try.prog 20 #[ptr m, ptr x, .slice A0 l.length c, i64 most] w fun e w' =>
      e = .returned (.tuple #[i64 (playF stp pk len l most 0 t).2.1, .bool (playF stp pk len l most 0 t).2.2]) ∧ Tr (Mt (playF stp pk len l most 0 t).1) R w w' ∧ ∃ n, Inv n (playF stp pk len l most 0 t).1 := by
  have hs0 : (fun (n : Nat) (w1 : World) (t1 : τ) => ∃ R1, (Mt t1).At R1 w1 ∧ Inv n t1 ∧ (∀ k, R1 k → R k ∨ w.heap.size ≤ k) ∧ w.heap.size ≤ w1.heap.size) 0 w t := ⟨R, ht, hi, fun _ h => Or.inl h, Nat.le_refl _⟩
  refine (ref7_Play (fun n w1 t1 => ∃ R1, (Mt t1).At R1 w1 ∧ Inv n t1 ∧ (∀ k, R1 k → R k ∨ w.heap.size ≤ k) ∧ w.heap.size ≤ w1.heap.size) stp pk len x m R w.heap.size l A0 kb ko c most w t hmost hl hlen (Nat.le_refl _) hA0 hcells ?_ ?_ ?_ ?_ hs0).mono ?_
  · rintro n w1 t1 ⟨R1, h1, h2, _⟩
    exact hmem n R1 w1 t1 h1 h2
  · rintro n w1 w2 t1 ⟨R1, h1, h2, h3, h4⟩ hk
    exact ⟨R1, (Mt t1).st h1 hk (fun _ _ h => h), h2, h3, Nat.le_trans h4 hk.size⟩
  · rintro n w1 t1 i y hp ⟨R1, h1, h2, h3, h4⟩ hi0 hi1
    refine (hpoke n R1 w1 t1 i y hp h1 h2 hi0 hi1).mono ?_
    rintro e w2 ⟨rfl, R2, g1, g2, g3⟩
    exact ⟨rfl, ⟨R2, g1, hipk n t1 i.toNat y (by obtain ⟨p, hp1, rfl, rfl⟩ := hp; exact ⟨p, hp1, rfl, rfl⟩) (by omega) h2, fun k hk => (g3 k hk).elim (h3 k) (fun h => Or.inr (Nat.le_trans h4 h)), Nat.le_trans h4 g2.size⟩, g2.mono h3⟩
  · rintro n w1 t1 hn ⟨R1, h1, h2, h3, h4⟩
    refine (hstep n R1 w1 t1 hn h1 h2).mono ?_
    rintro e w2 ⟨rfl, R2, g1, g2, g3⟩
    exact ⟨rfl, ⟨R2, g1, hist n t1 hn h2, fun k hk => (g3 k hk).elim (h3 k) (fun h => Or.inr (Nat.le_trans h4 h)), Nat.le_trans h4 g2.size⟩, g2.mono h3⟩
  · rintro e w2 ⟨rfl, ⟨n, R2, g1, g2, g3, g4⟩, hk⟩
    exact ⟨rfl, ⟨R2, g1, hk.trans (Keep.refl (fun _ => False) _) (fun _ _ h => h.elim) |> fun h => ⟨h.os, h.tape, h.output, h.size, fun k hk hn => h.block k hk (fun h => h.elim hn (fun h => by omega))⟩, g3⟩, n, g2⟩
/-- a count -/
def snO (b s x : Nat) (t : SN) : Ass := ⟨fun R w => SnR b s R w x t, fun h hk hS => h.keep hk hS, fun h k hk => h.lt k hk⟩
/-- a glance -/
def pkO (b x : Nat) (t : SN) : Ass := ⟨fun R w => PkR b R w x t, fun h hk hS => h.keep hk hS, fun h k hk => h.lt k hk⟩
/-- the document's machine -/
def r7O (b s : Nat) (pk : Bool) (y : Nat) (t : SN) : Ass where
  At R w := ∃ Ag, R7 b s pk w y Ag t ∧ (pk = true → Ag = none) ∧ ∀ k, R k ↔ RS y Ag k
  st := by
    rintro R S w w' ⟨Ag, h, h2, e⟩ hk hS
    exact ⟨Ag, h.keep hk (fun k hr => hS k ((e k).2 hr)), h2, e⟩
  lt := by
    rintro R w ⟨Ag, h, h2, e⟩ k hk
    exact h.lt k ((e k).1 hk)
theorem memx_post {B m a : Nat} {lv : Value} {W' : List Int} {L' : List Acc} {X' : Ass} {U Rm Rx : Nat → Prop} {w w' : World} (e1 : ∀ k, Rm k ↔ MF m a lv k) (e : ∀ k, U k ↔ Rm k ∨ Rx k)
    (h : ∃ lv' R', MemAt B w' m a lv' W' L' ∧ X'.At R' w' ∧ Keep (fun k => MF m a lv k ∨ Rx k) w w' ∧ (∀ k, lv'.ownBlock = some k → lv.ownBlock = some k ∨ w.heap.size ≤ k) ∧ (∀ k, R' k → Rx k ∨ w.heap.size ≤ k) ∧ (∀ k, R' k → ¬ MF m a lv' k)) : Tr ((memO B m W' L').star X') U w w' := by
  obtain ⟨lv', R', h1, h2, h3, h4, h5, h6⟩ := h
  refine ⟨fun k => MF m a lv' k ∨ R' k, ⟨MF m a lv', R', ⟨a, lv', h1, fun k => Iff.rfl⟩, h2, fun k hm hr => h6 k hr hm, fun k => Iff.rfl⟩, h3.mono (fun k h => (e k).2 (h.imp (e1 k).2 id)), ?_⟩
  rintro k ((h | h | h) | h)
  · exact Or.inl ((e k).2 (Or.inl ((e1 k).2 (Or.inl h))))
  · exact Or.inl ((e k).2 (Or.inl ((e1 k).2 (Or.inr (Or.inl h)))))
  · exact (h4 k h).imp (fun h => (e k).2 (Or.inl ((e1 k).2 (Or.inr (Or.inr h))))) id
  · exact (h5 k h).imp (fun h => (e k).2 (Or.inr h)) id
section
variable {B m x y b s : Nat} {R : Nat → Prop} {w : World} {t : SN}
theorem snO_Step (h : ((memO B m t.W t.L).star (snO b s x t)).At R w) (hi : NInv b s t) (hb : b ≤ 1000000) (hL : t.L.length ≤ 1000000000) :
    Calls Try.prog 18 #[ptr x, ptr m] w fun e w' => e = .returned (.bool (nStp b s t).2) ∧ Tr ((memO B m (nStp b s t).1.W (nStp b s t).1.L).star (snO b s x (nStp b s t).1)) R w w' := by
  obtain ⟨Rm, Rx, ⟨a, lv, hm, e1⟩, hx, hd, e2⟩ := h
  refine (sn_Step t hm hx (fun k hr h => hd k ((e1 k).2 h) hr) hi hb hL).mono ?_
  rintro e w' ⟨rfl, h⟩
  exact ⟨rfl, memx_post e1 e2 h⟩
theorem pkO_Step (h : ((memO B m t.W t.L).star (pkO b x t)).At R w) (hi : GInv b t) (hb : b ≤ 1000000) (hL : t.L.length ≤ 1000000000) :
    Calls Try.prog 18 #[ptr x, ptr m] w fun e w' => e = .returned (.bool (gStp b t).2) ∧ Tr ((memO B m (gStp b t).1.W (gStp b t).1.L).star (pkO b x (gStp b t).1)) R w w' := by
  obtain ⟨Rm, Rx, ⟨a, lv, hm, e1⟩, hx, hd, e2⟩ := h
  refine (pk_Step t hm hx (fun k hr h => hd k ((e1 k).2 h) hr) hi.1 hb hL).mono ?_
  rintro e w' ⟨rfl, h⟩
  exact ⟨rfl, memx_post e1 e2 h⟩
theorem r7_tr {pk : Bool} {A Ag : Option Addr} {lv : Value} {Rm Rx U : Nat → Prop} {t' : SN} {w' : World} (e1 : ∀ k, Rm k ↔ RF m A lv k) (e2 : ∀ k, Rx k ↔ RS y Ag k) (e : ∀ k, U k ↔ Rm k ∨ Rx k) (hp : pk = true → t'.fin = true)
    (h : R7P B w m y A Ag lv b s pk t' w') : Tr ((refO B m t'.W t'.L).star (r7O b s pk y t')) U w w' := by
  obtain ⟨A', c', lv', Ag', h1, h2, h3, h4, h5, h6, h7⟩ := h
  refine ⟨fun k => RF m A' lv' k ∨ RS y Ag' k, ⟨RF m A' lv', RS y Ag', ⟨A', c', lv', h1, fun k => Iff.rfl⟩, ⟨Ag', h2, fun hpk => h2.at_.choose_spec.choose_spec.2.2 (hp hpk), fun k => Iff.rfl⟩, fun k hm hr => h3 k hr hm, fun k => Iff.rfl⟩, h4.mono ?_, ?_⟩
  · rintro k ((h | h) | h)
    · exact (e k).2 (Or.inl ((e1 k).2 (Or.inl h)))
    · exact (e k).2 (Or.inl ((e1 k).2 (Or.inr (Or.inr h))))
    · exact (e k).2 (Or.inr ((e2 k).2 (Or.inl h)))
  · rintro k ((h | h | h) | h | h)
    · exact Or.inl ((e k).2 (Or.inl ((e1 k).2 (Or.inl h))))
    · exact (h5 k h).imp (fun h => (e k).2 (Or.inl ((e1 k).2 (Or.inr (Or.inl h))))) id
    · exact (h6 k h).imp (fun h => (e k).2 (Or.inl ((e1 k).2 (Or.inr (Or.inr h))))) id
    · exact Or.inl ((e k).2 (Or.inr ((e2 k).2 (Or.inl h))))
    · exact (h7 k h).imp (fun h => (e k).2 (Or.inr ((e2 k).2 (Or.inr h)))) id
theorem r7O_Count (h : ((refO B m t.W t.L).star (r7O b s false y t)).At R w) (hi : NInv b s t) (hb : b ≤ 1000000) (hL : t.L.length ≤ 1000000000) :
    Calls Try.prog 38 #[ptr y, ptr m] w fun e w' => e = .returned (.bool (nStp b s t).2) ∧ Tr ((refO B m (nStp b s t).1.W (nStp b s t).1.L).star (r7O b s false y (nStp b s t).1)) R w w' := by
  obtain ⟨Rm, Rx, ⟨A, c, lv, hm, e1⟩, ⟨Ag, hy, _, e3⟩, hd, e2⟩ := h
  refine (r7_Count_Step t hm hy (fun k hr h => hd k ((e1 k).2 h) ((e3 k).2 hr)) hi hb hL).mono ?_
  rintro e w' ⟨rfl, h⟩
  exact ⟨rfl, r7_tr e1 e3 e2 (fun h => by cases h) h⟩
theorem gStp_fin (b : Nat) (t : SN) : (gStp b t).1.fin = true := by
  show (gNext b t).fin = true
  unfold gNext
  split
  · assumption
  · rfl
theorem r7O_Peek (h : ((refO B m t.W t.L).star (r7O b s true y t)).At R w) (hi : GInv b t) (hL : t.L.length ≤ 1000000000) :
    Calls Try.prog 38 #[ptr y, ptr m] w fun e w' => e = .returned (.bool (gStp b t).2) ∧ Tr ((refO B m (gStp b t).1.W (gStp b t).1.L).star (r7O b s true y (gStp b t).1)) R w w' := by
  obtain ⟨Rm, Rx, ⟨A, c, lv, hm, e1⟩, ⟨Ag, hy, hn, e3⟩, hd, e2⟩ := h
  refine (r7_Peek_Step t hm ⟨hy, hn rfl⟩ (fun k hr h => hd k ((e1 k).2 h) ((e3 k).2 hr)) hi hL).mono ?_
  rintro e w' ⟨rfl, h⟩
  exact ⟨rfl, r7_tr e1 e3 e2 (fun _ => gStp_fin b t) h⟩
theorem snO_New (b s : Nat) (r : Int) (w : World) (W : List Int) (L : List Acc) (hs : s ≤ 8) (hb : b ≤ 1000000) :
    Calls Try.prog 13 #[i64 (b : Int), i64 (s : Int), i64 r] w fun e w' => ∃ x, e = .returned (ptr x) ∧ Nw (snO b s x ⟨W, L, r, [], 0, false, false⟩) w w' := by
  refine (snap_Count b s r w hs hb).mono ?_
  rintro e w' ⟨x, R, rfl, hk, h, hr⟩
  exact ⟨x, rfl, R, h W L, hk, hr⟩
theorem pkO_New (b : Nat) (w : World) (W : List Int) (L : List Acc) :
    Calls Try.prog 17 #[i64 (b : Int)] w fun e w' => ∃ x, e = .returned (ptr x) ∧ Nw (pkO b x ⟨W, L, 0, [], 0, false, false⟩) w w' := by
  refine (snap_Peek b w).mono ?_
  rintro e w' ⟨x, R, rfl, hk, h, hr⟩
  exact ⟨x, rfl, R, h W L, hk, hr⟩
theorem rs_none {y k : Nat} (h : RS y none k) : k = y := by
  rcases h with h | h
  · exact h
  · simp [Value.ownBlock] at h
theorem r7O_NewC (b s : Nat) (r : Int) (w : World) (W : List Int) (L : List Acc) :
    Calls Try.prog 19 #[i64 (b : Int), i64 (s : Int), i64 r] w fun e w' => ∃ y, e = .returned (ptr y) ∧ Nw (r7O b s false y ⟨W, L, r, [], 0, false, false⟩) w w' := by
  refine (r7_Count r w).mono ?_
  rintro e w' ⟨y, rfl, hz, hk, h⟩
  exact ⟨y, rfl, RS y none, ⟨none, h W L, fun _ => rfl, fun k => Iff.rfl⟩, hk, fun k h => by rw [rs_none h]; exact hz⟩
theorem r7O_NewP (b : Nat) (w : World) (W : List Int) (L : List Acc) :
    Calls Try.prog 23 #[i64 (b : Int)] w fun e w' => ∃ y, e = .returned (ptr y) ∧ Nw (r7O b 0 true y ⟨W, L, 0, [], 0, false, false⟩) w w' := by
  refine (r7_Peek w).mono ?_
  rintro e w' ⟨y, rfl, hz, hk, h⟩
  exact ⟨y, rfl, RS y none, ⟨none, h W L, fun _ => rfl, fun k => Iff.rfl⟩, hk, fun k h => by rw [rs_none h]; exact hz⟩
/-- what holds of a state that is played: so many accesses at most -/
def PI7 (Inv : SN → Prop) (len L0 : Nat) (n : Nat) (t : SN) : Prop := Inv t ∧ t.W.length = len ∧ t.L.length ≤ L0 + n
section
variable (t : SN) (l : List Pk) (A0 : Option Addr) (kb ko c most : Nat) (hb : b ≤ 1000000) (hL : t.L.length ≤ 1000000) (hmost : most ≤ 2000) (hl : l.length ≤ 1000000) (hlen : t.W.length ≤ 1000000)
  (hA0 : 0 < l.length → A0 = some ⟨kb, ko, none⟩ ∧ kb < w.heap.size ∧ ¬ R kb)
  (hcells : ∀ i (h : i < l.length), w.cell? ⟨kb, ko + i * 3, none⟩ = some (i64 l[i].at_) ∧ w.cell? ⟨kb, ko + i * 3 + 1, none⟩ = some (i64 l[i].w) ∧ w.cell? ⟨kb, ko + i * 3 + 2, none⟩ = some (i64 l[i].x))
include hb hL hmost hl hA0 hcells hlen
theorem snO_Play (h : ((memO B m t.W t.L).star (snO b s x t)).At R w) (hi : NInv b s t) :
    Calls Try.prog 14 #[ptr m, .iface 35 (ptr x), .slice A0 l.length c, i64 most] w fun e w' =>
      e = .returned (.tuple #[i64 (playF (nStp b s) nPk t.W.length l most 0 t).2.1, .bool (playF (nStp b s) nPk t.W.length l most 0 t).2.2]) ∧ Tr ((memO B m (playF (nStp b s) nPk t.W.length l most 0 t).1.W (playF (nStp b s) nPk t.W.length l most 0 t).1.L).star (snO b s x (playF (nStp b s) nPk t.W.length l most 0 t).1)) R w w' ∧ ∃ n, PI7 (NInv b s) t.W.length t.L.length n (playF (nStp b s) nPk t.W.length l most 0 t).1 := by
  refine play_SL (fun t => (memO B m t.W t.L).star (snO b s x t)) (PI7 (NInv b s) t.W.length t.L.length) (nStp b s) nPk t.W.length 18 35 x m l A0 kb ko c most w R t (by omega) hl hlen h ⟨hi, rfl, by omega⟩ hA0 hcells ?_ ?_ ?_ ?_ ?_ (fun w => meth_nStep x w) callF_nStep
  · rintro n R w t1 ⟨Rm, Rx, h1, _⟩ ⟨_, e, _⟩
    rw [← e]
    exact memO_mem h1
  · rintro n t1 i y _ _ ⟨h1, h2, h3⟩
    exact ⟨h1.poke i y, by simpa [nPk] using h2, h3⟩
  · rintro n t1 hn ⟨h1, h2, h3⟩
    exact ⟨h1.step, by show (nNext b s t1).W.length = _; rw [nNext_W]; exact h2, by have := nNext_logle b s t1; show (nNext b s t1).L.length ≤ _; omega⟩
  · rintro n R w t1 i y _ h1 ⟨_, e, _⟩ hi0 hi1
    obtain ⟨Rm, Rx, g1, g2, g3, g4⟩ := h1
    refine (memO_Poke i y g1 hi0 (by omega)).mono ?_
    rintro e w2 ⟨rfl, h⟩
    exact ⟨rfl, Tr.frame1 (r := snO b s x (nPk t1 i.toNat y)) (show SnR b s Rx w x (nPk t1 i.toNat y) from SnR.poke g2 _ _) g3 g4 h⟩
  · rintro n R w t1 hn h1 ⟨h2, h3, h4⟩
    exact snO_Step h1 h2 hb (by omega)
theorem pkO_Play (h : ((memO B m t.W t.L).star (pkO b x t)).At R w) (hi : GInv b t) :
    Calls Try.prog 14 #[ptr m, .iface 35 (ptr x), .slice A0 l.length c, i64 most] w fun e w' =>
      e = .returned (.tuple #[i64 (playF (gStp b) nPk t.W.length l most 0 t).2.1, .bool (playF (gStp b) nPk t.W.length l most 0 t).2.2]) ∧ Tr ((memO B m (playF (gStp b) nPk t.W.length l most 0 t).1.W (playF (gStp b) nPk t.W.length l most 0 t).1.L).star (pkO b x (playF (gStp b) nPk t.W.length l most 0 t).1)) R w w' ∧ ∃ n, PI7 (GInv b) t.W.length t.L.length n (playF (gStp b) nPk t.W.length l most 0 t).1 := by
  refine play_SL (fun t => (memO B m t.W t.L).star (pkO b x t)) (PI7 (GInv b) t.W.length t.L.length) (gStp b) nPk t.W.length 18 35 x m l A0 kb ko c most w R t (by omega) hl hlen h ⟨hi, rfl, by omega⟩ hA0 hcells ?_ ?_ ?_ ?_ ?_ (fun w => meth_nStep x w) callF_nStep
  · rintro n R w t1 ⟨Rm, Rx, h1, _⟩ ⟨_, e, _⟩
    rw [← e]
    exact memO_mem h1
  · rintro n t1 i y _ _ ⟨h1, h2, h3⟩
    exact ⟨⟨by simpa [nPk] using h1.1, h1.2⟩, by simpa [nPk] using h2, h3⟩
  · rintro n t1 hn ⟨h1, h2, h3⟩
    exact ⟨h1.step, by show (gNext b t1).W.length = _; rw [gNext_W]; exact h2, by have := gNext_logle b t1; show (gNext b t1).L.length ≤ _; omega⟩
  · rintro n R w t1 i y _ h1 ⟨_, e, _⟩ hi0 hi1
    obtain ⟨Rm, Rx, g1, g2, g3, g4⟩ := h1
    refine (memO_Poke i y g1 hi0 (by omega)).mono ?_
    rintro e w2 ⟨rfl, h⟩
    exact ⟨rfl, Tr.frame1 (r := pkO b x (nPk t1 i.toNat y)) (show PkR b Rx w x (nPk t1 i.toNat y) from PkR.poke g2 _ _) g3 g4 h⟩
  · rintro n R w t1 hn h1 ⟨h2, h3, h4⟩
    exact pkO_Step h1 h2 hb (by omega)
theorem r7O_PlayC (h : ((refO B m t.W t.L).star (r7O b s false x t)).At R w) (hi : NInv b s t) :
    Calls Try.prog 20 #[ptr m, ptr x, .slice A0 l.length c, i64 most] w fun e w' =>
      e = .returned (.tuple #[i64 (playF (nStp b s) nPk t.W.length l most 0 t).2.1, .bool (playF (nStp b s) nPk t.W.length l most 0 t).2.2]) ∧ Tr ((refO B m (playF (nStp b s) nPk t.W.length l most 0 t).1.W (playF (nStp b s) nPk t.W.length l most 0 t).1.L).star (r7O b s false x (playF (nStp b s) nPk t.W.length l most 0 t).1)) R w w' ∧ ∃ n, PI7 (NInv b s) t.W.length t.L.length n (playF (nStp b s) nPk t.W.length l most 0 t).1 := by
  refine ref7_SL (fun t => (refO B m t.W t.L).star (r7O b s false x t)) (PI7 (NInv b s) t.W.length t.L.length) (nStp b s) nPk t.W.length x m l A0 kb ko c most w R t (by omega) hl hlen h ⟨hi, rfl, by omega⟩ hA0 hcells ?_ ?_ ?_ ?_ ?_
  · rintro n R w t1 ⟨Rm, Rx, h1, _⟩ ⟨_, e, _⟩
    rw [← e]
    exact refO_mem h1
  · rintro n t1 i y _ _ ⟨h1, h2, h3⟩
    exact ⟨h1.poke i y, by simpa [nPk] using h2, h3⟩
  · rintro n t1 hn ⟨h1, h2, h3⟩
    exact ⟨h1.step, by show (nNext b s t1).W.length = _; rw [nNext_W]; exact h2, by have := nNext_logle b s t1; show (nNext b s t1).L.length ≤ _; omega⟩
  · rintro n R w t1 i y _ h1 ⟨_, e, _⟩ hi0 hi1
    obtain ⟨Rm, Rx, g1, g2, g3, g4⟩ := h1
    refine (refO_Poke i y g1 hi0 (by omega) (by omega)).mono ?_
    rintro e w2 ⟨rfl, h⟩
    exact ⟨rfl, Tr.frame1 (r := r7O b s false x (nPk t1 i.toNat y)) (by obtain ⟨Ag, a1, a2, a3⟩ := g2; exact ⟨Ag, a1.poke _ _, a2, a3⟩) g3 g4 h⟩
  · rintro n R w t1 hn h1 ⟨h2, h3, h4⟩
    exact r7O_Count h1 h2 hb (by omega)
theorem r7O_PlayP (h : ((refO B m t.W t.L).star (r7O b s true x t)).At R w) (hi : GInv b t) :
    Calls Try.prog 20 #[ptr m, ptr x, .slice A0 l.length c, i64 most] w fun e w' =>
      e = .returned (.tuple #[i64 (playF (gStp b) nPk t.W.length l most 0 t).2.1, .bool (playF (gStp b) nPk t.W.length l most 0 t).2.2]) ∧ Tr ((refO B m (playF (gStp b) nPk t.W.length l most 0 t).1.W (playF (gStp b) nPk t.W.length l most 0 t).1.L).star (r7O b s true x (playF (gStp b) nPk t.W.length l most 0 t).1)) R w w' ∧ ∃ n, PI7 (GInv b) t.W.length t.L.length n (playF (gStp b) nPk t.W.length l most 0 t).1 := by
  have _ := hb
  refine ref7_SL (fun t => (refO B m t.W t.L).star (r7O b s true x t)) (PI7 (GInv b) t.W.length t.L.length) (gStp b) nPk t.W.length x m l A0 kb ko c most w R t (by omega) hl hlen h ⟨hi, rfl, by omega⟩ hA0 hcells ?_ ?_ ?_ ?_ ?_
  · rintro n R w t1 ⟨Rm, Rx, h1, _⟩ ⟨_, e, _⟩
    rw [← e]
    exact refO_mem h1
  · rintro n t1 i y _ _ ⟨h1, h2, h3⟩
    exact ⟨⟨by simpa [nPk] using h1.1, h1.2⟩, by simpa [nPk] using h2, h3⟩
  · rintro n t1 hn ⟨h1, h2, h3⟩
    exact ⟨h1.step, by show (gNext b t1).W.length = _; rw [gNext_W]; exact h2, by have := gNext_logle b t1; show (gNext b t1).L.length ≤ _; omega⟩
  · rintro n R w t1 i y _ h1 ⟨_, e, _⟩ hi0 hi1
    obtain ⟨Rm, Rx, g1, g2, g3, g4⟩ := h1
    refine (refO_Poke i y g1 hi0 (by omega) (by omega)).mono ?_
    rintro e w2 ⟨rfl, h⟩
    exact ⟨rfl, Tr.frame1 (r := r7O b s true x (nPk t1 i.toNat y)) (by obtain ⟨Ag, a1, a2, a3⟩ := g2; exact ⟨Ag, a1.poke _ _, a2, a3⟩) g3 g4 h⟩
  · rintro n R w t1 hn h1 ⟨h2, h3, h4⟩
    exact r7O_Peek h1 h2 (by omega)
end
end
end Go.Proofs.Ytlkniogapdhcpaa
