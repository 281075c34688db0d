/- breadlineref08: the document's machine of a pool: Step. -/
import Derived.Test.YtdjfeapncpcmgaaPoolQ
import Derived.Test.YtdjfeapncpcmgaaRefOps
import Derived.Test.YtdjfeapncpcmgaaRefFive
import Derived.Test.YtdjfeapncpcmgaaRegion
namespace Go.Proofs.Ytdjfeapncpcmgaa
open Go.RowKit
set_option linter.unusedVariables false
set_option linter.unusedSimpArgs false
set_option maxRecDepth 100000

/-- its cells -/
def rcs (t s g l r k : Int) (PA : Option Addr) (pn pc : Nat) (LA : Option Addr) (ln lc : Nat) (nd n st : Int) (x : PS) (e : Int) : List Value :=
  [i64 t, i64 s, i64 g, i64 l, i64 r, i64 k, .slice PA pn pc, .slice LA ln lc, i64 nd, i64 n, i64 st, i64 (if x.next = 7 then 9 else (x.next : Int)), i64 x.had, i64 x.saw, i64 e, i64 (if x.bad = true then 4 else 0), i64 0, .bool false, i64 (if x.bad = true then nd else 0)]
section
variable {B : Nat} {w : World} {m y : Nat} {A : Option Addr} {ca : Nat} {lv : Value} {av le : Nat} {t s g l r k nd n st X : Int} {PA : Option Addr} {pn pc : Nat} {LA : Option Addr} {ln lc : Nat}
theorem ry_far {W : List Int} {L : List Acc} {cs : List Value} (hm : RefAt B w m A ca lv W L) (hy : Blk w y 106 cs) : ¬ (y = m ∨ lv.ownBlock = some y) := by
  rintro (h | h)
  · exact hy.ne hm.mem (by decide) h
  · exact ownBlock_ne hm.log hy (by decide) h.symm
theorem ry_far2 {W : List Int} {L : List Acc} {cs : List Value} (hm : RefAt B w m A ca lv W L) (hy : Blk w y 106 cs) (b : Nat) (hb : RF m A lv b) : b ≠ y := by
  rintro rfl
  rcases hb with h | h | h
  · exact hy.ne hm.mem (by decide) h
  · exact ownBlock_ne hm.words hy (by decide) ((own_any _ _ _ _ _).trans h).symm
  · exact ownBlock_ne hm.log hy (by decide) h.symm
/-- what a step leaves -/
def RPoolP (B : Nat) (w : World) (m : Nat) (A : Option Addr) (lv : Value) (y : Nat) (t s g l r k : Int) (PA : Option Addr) (pn pc : Nat) (LA : Option Addr) (ln lc : Nat) (nd n st : Int) (x : PS) (e : Ending) (w' : World) : Prop :=
  e = .returned (.bool (decide (x.next = 7))) ∧ ∃ A' c' lv' e', RefAt B w' m A' c' lv' x.W x.L ∧ Blk w' y 106 (rcs t s g l r k PA pn pc LA ln lc nd n st x e') ∧ (x.next < 7 → e' = x.extra) ∧ Keep (fun b => (b = m ∨ lv.ownBlock = some b) ∨ b = y) w w' ∧
    (∀ b, (Value.slice A' 0 0).ownBlock = some b → (Value.slice A 0 0).ownBlock = some b ∨ w.heap.size ≤ b) ∧ (∀ b, lv'.ownBlock = some b → lv.ownBlock = some b ∨ w.heap.size ≤ b)
theorem rpoolP_of {w1 w2 : World} {A1 : Option Addr} {c1 : Nat} {lv1 : Value} {x' : PS} {e' : Int} {cs : List Value} (hm : RefAt B w1 m A1 c1 lv1 x'.W x'.L) (hk : Keep (fun b => b = m ∨ lv.ownBlock = some b) w w1)
    (ha : ∀ b, (Value.slice A1 0 0).ownBlock = some b → (Value.slice A 0 0).ownBlock = some b ∨ w.heap.size ≤ b) (hl : ∀ b, lv1.ownBlock = some b → lv.ownBlock = some b ∨ w.heap.size ≤ b)
    (hy1 : Blk w1 y 106 cs) (hk2 : Keep (fun b => b = y) w1 w2) (hy2 : Blk w2 y 106 (rcs t s g l r k PA pn pc LA ln lc nd n st x' e')) (he : x'.next < 7 → e' = x'.extra) :
    RPoolP B w m A lv y t s g l r k PA pn pc LA ln lc nd n st x' (.returned (.bool (decide (x'.next = 7)))) w2 :=
  ⟨rfl, A1, c1, lv1, e', hm.keep hk2 (fun b h => ry_far2 hm hy1 b h), hy2, he, (hk.mono (fun _ h => Or.inl h)).trans (hk2.mono (fun _ h => Or.inr h)) (fun _ _ h => h), ha, hl⟩
theorem rpoolP_of2 {w1 w2 : World} {A1 : Option Addr} {c1 : Nat} {lv1 : Value} {x' : PS} {e' : Int} {cs : List Value} (hm : RefAt B w1 m A1 c1 lv1 x'.W x'.L) (hk : Keep (fun b => (b = m ∨ lv.ownBlock = some b) ∨ b = y) w w1)
    (ha : ∀ b, (Value.slice A1 0 0).ownBlock = some b → (Value.slice A 0 0).ownBlock = some b ∨ w.heap.size ≤ b) (hl : ∀ b, lv1.ownBlock = some b → lv.ownBlock = some b ∨ w.heap.size ≤ b)
    (hy1 : Blk w1 y 106 cs) (hk2 : Keep (fun b => b = y) w1 w2) (hy2 : Blk w2 y 106 (rcs t s g l r k PA pn pc LA ln lc nd n st x' e')) (he : x'.next < 7 → e' = x'.extra) :
    RPoolP B w m A lv y t s g l r k PA pn pc LA ln lc nd n st x' (.returned (.bool (decide (x'.next = 7)))) w2 :=
  ⟨rfl, A1, c1, lv1, e', hm.keep hk2 (fun b h => ry_far2 hm hy1 b h), hy2, he, hk.trans (hk2.mono (fun _ h => Or.inr h)) (fun _ _ h => h), ha, hl⟩
theorem ref_LoadN {W : List Int} {L : List Acc} (i : Nat) (hm : RefAt B w m A ca lv W L) (hi : i < W.length) (hL : L.length ≤ 1000000000) :
    Calls Try.prog 72 #[ptr m, i64 i] w fun e w' => e = .returned (i64 (rd W i)) ∧ RefPost B w m A lv W (L ++ [⟨1, i, rd W i, 0, false⟩]) w' := by
  have h := ref_Load (i : Int) hm (by omega) (by omega) hL
  rwa [Int.toNat_natCast] at h
theorem ref_CasN {W : List Int} {L : List Acc} (i : Nat) (old x : Int) (hm : RefAt B w m A ca lv W L) (hi : i < W.length) (hW : W.length ≤ 1000000) (hL : L.length ≤ 1000000000) :
    Calls Try.prog 73 #[ptr m, i64 i, i64 old, i64 x] w fun e w' => e = .returned (.bool (rd W i == old)) ∧ RefPost B w m A lv (casW W i old x) (L ++ [⟨3, i, old, x, rd W i == old⟩]) w' := by
  have h := ref_Cas (i : Int) old x hm (by omega) (by omega) hW hL
  rwa [Int.toNat_natCast] at h

end
end Go.Proofs.Ytdjfeapncpcmgaa
