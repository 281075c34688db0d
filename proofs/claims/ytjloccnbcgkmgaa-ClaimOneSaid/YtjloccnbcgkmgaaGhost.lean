/- What free values are: one property for each operation, kept by whatever keeps old blocks. -/
import Derived.Test.YtjloccnbcgkmgaaRegionF
import Derived.Test.YtjloccnbcgkmgaaLog
import Derived.Test.YtjloccnbcgkmgaaRefFresh
namespace Go.Proofs.Ytjloccnbcgkmgaa
open Go.RowKit
set_option linter.unusedVariables false
set_option linter.unusedSimpArgs false

def GWI (D : Nat → Value → World → Prop) (S : Nat → Bool) (gh : Nat → Value) (w : World) : Prop := ∀ i, S i = true → D i (gh i) w
def Stable (D : Nat → Value → World → Prop) : Prop := ∀ i v w w', D i v w → Keep0 w w' → D i v w'
theorem GWI.start (D : Nat → Value → World → Prop) (gh : Nat → Value) (w : World) : GWI D (fun _ => false) gh w := fun _ h => by cases h
theorem GWI.keep {D : Nat → Value → World → Prop} {S : Nat → Bool} {gh : Nat → Value} {w w' : World} (h : GWI D S gh w) (hs : Stable D) (hk : Keep0 w w') : GWI D S gh w' := fun i hi => hs i _ _ _ (h i hi) hk
theorem GWI.fixed {D : Nat → Value → World → Prop} {S : Nat → Bool} {gh : Nat → Value} {w : World} (h : GWI D S gh w) {i : Nat} (hi : D i (gh i) w) : GWI D (upd S i) gh w := fun j hj => by
  by_cases e : j = i
  · subst e; exact hi
  · exact h j (by simpa [upd, e] using hj)
theorem GWI.free {D : Nat → Value → World → Prop} {S : Nat → Bool} {gh : Nat → Value} {w : World} (h : GWI D S gh w) {i : Nat} {u : Value} (hi : D i u w) : GWI D (upd S i) (updv gh i u) w := fun j hj => by
  by_cases e : j = i
  · subst e; rw [updv_same]; exact hi
  · rw [updv_ne e]; exact h j (by simpa [upd, e] using hj)

def PMem (B : Nat) (W : List Int) (v : Value) (w : World) : Prop := ∃ m a lv, v = ptr m ∧ MemAt B w m a lv W []
def PRef (B : Nat) (W : List Int) (v : Value) (w : World) : Prop := ∃ m, v = ptr m ∧ RefOK B w m (.slice none 0 0) W []
def PInts (W : List Int) (v : Value) (w : World) : Prop := ∃ A c, v = .slice A W.length c ∧ IntsAt w A W
def PLog0 (v : Value) (w : World) : Prop := ∃ A c, v = .slice A 0 c
theorem PMem.keep {B : Nat} {W : List Int} {v : Value} {w w' : World} (h : PMem B W v w) (hk : Keep0 w w') : PMem B W v w' := by
  obtain ⟨m, a, lv, e, h⟩ := h
  exact ⟨m, a, lv, e, h.same hk⟩
theorem PRef.keep {B : Nat} {W : List Int} {v : Value} {w w' : World} (h : PRef B W v w) (hk : Keep0 w w') : PRef B W v w' := by
  obtain ⟨m, e, h⟩ := h
  exact ⟨m, e, h.same hk⟩
theorem PInts.keep {W : List Int} {v : Value} {w w' : World} (h : PInts W v w) (hk : Keep0 w w') : PInts W v w' := by
  obtain ⟨A, c, e, h⟩ := h
  exact ⟨A, c, e, h.keep hk⟩
theorem RefOK.ints {B : Nat} {w : World} {m : Nat} {lv : Value} {W : List Int} {L : List Acc} (h : RefOK B w m lv W L) (hW : 0 < W.length) : ∃ g c, Blk w m 59 [.slice (some ⟨g, 0, none⟩) W.length c, lv] ∧ IntsAt w (some ⟨g, 0, none⟩) W := by
  obtain ⟨A, c, h⟩ := h
  obtain ⟨g, rfl, hg, _⟩ := ints_own h.words hW rfl
  exact ⟨g, c, h.mem, hg.at_⟩
theorem freshW_length (s k : Int) (pn : Nat) (L : List Int) : (freshW s k pn L).length = (pn * (6 + 2 * s) + 2 * k).toNat := by rw [freshW, layN_length, List.length_replicate]
end Go.Proofs.Ytjloccnbcgkmgaa
