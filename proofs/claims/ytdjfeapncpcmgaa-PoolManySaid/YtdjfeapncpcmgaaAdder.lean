/- breadlinelaw03.Adder, played. -/
import Derived.Test.YtdjfeapncpcmgaaLawThree
import Derived.Test.YtdjfeapncpcmgaaPlay
namespace Go.Proofs.Ytdjfeapncpcmgaa
open Go.RowKit
set_option linter.unusedVariables false
set_option linter.unusedSimpArgs false

structure AS where
  W : List Int
  L : List Acc
  many : Int
  last : Int
def addStp (wi : Nat) (t : AS) : AS × Bool :=
  if 0 < t.many then (⟨t.W.set wi (wrap64 (rd t.W wi + 1)), t.L ++ [⟨2, wi, 1, wrap64 (rd t.W wi + 1), false⟩], t.many - 1, wrap64 (rd t.W wi + 1)⟩, t.many - 1 == 0) else (t, t.many == 0)
def addPk (t : AS) (i : Nat) (x : Int) : AS := ⟨t.W.set i x, t.L, t.many, t.last⟩

section
variable {B : Nat} {w : World} {m a x : Nat} {lv : Value}
set_option maxHeartbeats 2000000 in
theorem adder_Step (wi : Nat) (t : AS) (hm : MemAt B w m a lv t.W t.L) (hx : Blk w x 88 [i64 wi, i64 t.many, i64 t.last]) (hi : wi < t.W.length) (hm0 : 0 ≤ t.many) (hm1 : t.many ≤ 1000) (hL : t.L.length ≤ 1000000000) :
    Calls Try.prog 96 #[ptr x, ptr m] w fun e w' => e = .returned (.bool (addStp wi t).2) ∧
      ∃ lv', MemAt B w' m a lv' (addStp wi t).1.W (addStp wi t).1.L ∧ Blk w' x 88 [i64 wi, i64 (addStp wi t).1.many, i64 (addStp wi t).1.last] ∧ Keep (fun k => MF m a lv k ∨ k = x) w w' ∧ (∀ k, lv'.ownBlock = some k → lv.ownBlock = some k ∨ w.heap.size ≤ k) := by
  obtain ⟨W, L, many, last⟩ := t
  simp only at hm hx hi hm0 hm1 hL
  have hxm := hx.ne hm.mem (by decide)
  have hxa := hx.ne hm.words (by decide)
  have hxl := ownBlock_ne hm.log hx (by decide)
  have hxmf : ¬ MF m a lv x := by
    rintro (h | h | h)
    · exact hxm h
    · exact hxa h
    · exact hxl h.symm
  have qx := hx.k3
  have HM := hid hm
  have HX := hid hx
  clear hm hx hxl
  by_cases hp : 0 < many
  · have e : addStp wi ⟨W, L, many, last⟩ = (⟨W.set wi (wrap64 (rd W wi + 1)), L ++ [⟨2, wi, 1, wrap64 (rd W wi + 1), false⟩], many - 1, wrap64 (rd W wi + 1)⟩, many - 1 == 0) := by simp [addStp, hp]
    rw [e]
    clear e
    go_enter Try.func96, Try.ntmps96
    go_wp2_with fail
    refine (mem_Add wi 1 HM.out (by omega) (by omega) hL).mono ?_
    rintro e w1 ⟨rfl, lv1, h1, k1, l1⟩
    rw [Int.toNat_natCast] at *
    have HX1 := hid (k1.blk HX.out hxmf)
    have H1 := hid h1
    have K1 := hid k1
    have L1 := hid l1
    have qx1 := HX1.out.k3
    clear h1 k1 l1 qx
    go_wp2_with fail
    go_ret
    have h1 := H1.out
    refine ⟨rfl, lv1, ?_, (HX1.out.set 2 _).set 1 _, ((show Keep (fun k => MF m a lv k ∨ k = x) w w1 from K1.out.mono (fun _ h => Or.inl h)).set _ _ (fun _ => Or.inr rfl)).set _ _ (fun _ => Or.inr rfl), L1.out⟩
    exact (h1.keep (((Keep.refl (fun k => k = x) w1).set ⟨x, 2, none⟩ _ (fun _ => rfl)).set ⟨x, 1, none⟩ _ (fun _ => rfl)) (fun k hk e => by
      have e' : k = x := e
      subst e'
      rcases hk with h | h | h
      · exact hxm h
      · exact hxa h
      · exact ownBlock_ne h1.log HX1.out (by decide) h.symm))
  · have e : addStp wi ⟨W, L, many, last⟩ = (⟨W, L, many, last⟩, many == 0) := by simp [addStp, hp]
    rw [e]
    clear e
    go_enter Try.func96, Try.ntmps96
    go_wp2_with fail
    go_ret
    exact ⟨rfl, lv, HM.out, HX.out, Keep.refl _ _, fun _ h => Or.inl h⟩

theorem callF_step (args : Array Value) (w : World) : (callFunc 96 args).run Try.prog w = .ok (.enter 96 args) w := by go_simp
theorem meth_step (x : Nat) (w : World) : (method 234 86 (ptr x) "Step").run Try.prog w = .ok (96, ptr x) w := by kernel_rfl

def AdderSys (B m a x wi len L0 : Nat) (lv0 : Value) (N : Nat) (n : Nat) (w : World) (t : AS) : Prop :=
  ∃ lv, MemAt B w m a lv t.W t.L ∧ (∀ k, lv.ownBlock = some k → lv0.ownBlock = some k ∨ N ≤ k) ∧ Blk w x 88 [i64 wi, i64 t.many, i64 t.last] ∧ t.W.length = len ∧ t.L.length ≤ L0 + n ∧ 0 ≤ t.many ∧ t.many ≤ 1000 ∧ N ≤ w.heap.size

set_option maxHeartbeats 2000000 in
theorem play_adder (wi : Nat) (t : AS) (l : List Pk) (A0 : Option Addr) (b o c most : Nat) (hm : MemAt B w m a lv t.W t.L) (hx : Blk w x 88 [i64 wi, i64 t.many, i64 t.last]) (hi : wi < t.W.length) (hm0 : 0 ≤ t.many) (hm1 : t.many ≤ 1000) (hL : t.L.length ≤ 1000)
    (hmost : most ≤ 1000000) (hl : l.length ≤ 1000000) (hA0 : 0 < l.length → A0 = some ⟨b, o, none⟩ ∧ b < w.heap.size ∧ b ≠ m ∧ b ≠ a ∧ b ≠ x ∧ lv.ownBlock ≠ some b)
    (hcells : ∀ i (h : i < l.length), w.cell? ⟨b, o + i * 3, none⟩ = some (i64 l[i].at_) ∧ w.cell? ⟨b, o + i * 3 + 1, none⟩ = some (i64 l[i].w) ∧ w.cell? ⟨b, o + i * 3 + 2, none⟩ = some (i64 l[i].x)) :
    Calls Try.prog 23 #[ptr m, .iface 86 (ptr x), .slice A0 l.length c, i64 most] w fun e w' =>
      e = .returned (.tuple #[i64 (playF (addStp wi) addPk t.W.length l most 0 t).2.1, .bool (playF (addStp wi) addPk t.W.length l most 0 t).2.2]) ∧
      (∃ n, AdderSys B m a x wi t.W.length t.L.length lv w.heap.size n w' (playF (addStp wi) addPk t.W.length l most 0 t).1) ∧ Keep (fun k => (k = m ∨ k = a ∨ k = x ∨ lv.ownBlock = some k) ∨ w.heap.size ≤ k) w w' := by
  have hxm := hx.ne hm.mem (by decide)
  have hxa := hx.ne hm.words (by decide)
  refine mem_Play (AdderSys B m a x wi t.W.length t.L.length lv w.heap.size) (addStp wi) addPk t.W.length 96 86 x m (fun k => k = m ∨ k = a ∨ k = x ∨ lv.ownBlock = some k) w.heap.size l A0 b o c most w t hmost hl (Nat.le_refl _) ?_ hcells ?_ ?_ ?_ ?_ (fun w => meth_step x w) callF_step ?_
  · intro h0
    obtain ⟨e, hb, hbm, hba, hbx, hbl⟩ := hA0 h0
    refine ⟨e, hb, ?_⟩
    rintro (h | h | h | h)
    · exact hbm h
    · exact hba h
    · exact hbx h
    · exact hbl h
  · rintro n w1 t1 ⟨lv1, h1, _, _, hlen, _⟩
    exact ⟨a, lv1, by rw [← hlen]; exact h1.mem⟩
  · rintro n w1 w2 t1 ⟨lv1, h1, h2, h3, h4, h5, h6, h7, h8⟩ hk
    exact ⟨lv1, h1.same hk, h2, hk.blk h3 (fun h => h), h4, h5, h6, h7, Nat.le_trans h8 hk.size⟩
  · rintro n w1 t1 i y _ ⟨lv1, h1, h2, h3, h4, h5, h6, h7, h8⟩ hi0 hi1
    refine (mem_Poke i y h1 hi0 (by rw [h4]; exact hi1)).mono ?_
    rintro e w2 ⟨rfl, hm2, hk2⟩
    exact ⟨rfl, ⟨lv1, hm2, h2, hk2.blk h3 (fun e => hxa e), by simp [addPk, h4], h5, h6, h7, Nat.le_trans h8 hk2.size⟩, hk2.mono (fun k e => Or.inl (Or.inr (Or.inl e)))⟩
  · rintro n w1 t1 hn ⟨lv1, h1, h2, h3, h4, h5, h6, h7, h8⟩
    refine (adder_Step wi t1 h1 h3 (by omega) h6 h7 (by omega)).mono ?_
    rintro e w2 ⟨rfl, lv2, hm2, hx2, hk2, hl2⟩
    refine ⟨rfl, ⟨lv2, hm2, ?_, hx2, ?_, ?_, ?_, ?_, Nat.le_trans h8 hk2.size⟩, hk2.mono ?_⟩
    · intro k hk
      rcases hl2 k hk with h | h
      · exact h2 k h
      · exact Or.inr (Nat.le_trans h8 h)
    · unfold addStp; split <;> simp [h4]
    · unfold addStp; split <;> simp <;> omega
    · unfold addStp; split <;> simp <;> omega
    · unfold addStp; split <;> simp <;> omega
    · rintro k ((h | h | h) | h)
      · exact Or.inl (Or.inl h)
      · exact Or.inl (Or.inr (Or.inl h))
      · rcases h2 k h with h | h
        · exact Or.inl (Or.inr (Or.inr (Or.inr h)))
        · exact Or.inr h
      · exact Or.inl (Or.inr (Or.inr (Or.inl h)))
  · exact ⟨lv, hm, fun _ h => Or.inl h, hx, rfl, by omega, hm0, hm1, Nat.le_refl _⟩
end
end Go.Proofs.Ytdjfeapncpcmgaa
