/- Adding machines, and a count, that lie apart. -/
import Derived.Test.YtlkniogapdhcpaaSepSeven
import Derived.Test.YtlkniogapdhcpaaSnapX
import Derived.Test.YtlkniogapdhcpaaAddS
namespace Go.Proofs.Ytlkniogapdhcpaa
open Go.RowKit
set_option linter.unusedVariables false
set_option linter.unusedSimpArgs false
set_option maxRecDepth 100000
def amO (b s : Nat) (g : Int) (p : Am) : Ass := Ass.blk p.x 95 (acs b s g p.d p.t)
theorem amO_Step {B m b s : Nat} {g : Int} {W : List Int} {L : List Acc} {R : Nat → Prop} {w : World} (p : Am) (h : ((memO B m W L).star (amO b s g p)).At R w) (hi : AInv b s g p.d (p.at W L)) (hL : L.length ≤ 1000000000) :
    Calls Try.prog 28 #[ptr p.x, ptr m] w fun e w' => e = .returned (.bool (decide ((aNext b s g p.d (p.at W L)).st = 9))) ∧
      Tr ((memO B m (aNext b s g p.d (p.at W L)).W (aNext b s g p.d (p.at W L)).L).star (amO b s g ⟨p.x, p.d, aNext b s g p.d (p.at W L)⟩)) R w w' := by
  obtain ⟨Rm, Rx, ⟨a, lv, hm, e1⟩, ⟨hx, ex⟩, hd, e2⟩ := h
  refine (addS_Step (p.at W L) hm hx hi hL).mono ?_
  rintro e w' ⟨rfl, lv', h1, h2, h3, h4⟩
  refine ⟨rfl, memx_post e1 e2 ⟨lv', fun k => k = p.x, h1, ⟨h2, fun k => Iff.rfl⟩, h3.mono (fun k h => h.imp id (ex k).2), h4, fun k h => Or.inl ((ex k).2 h), ?_⟩⟩
  rintro k rfl (h | h | h)
  · exact h2.ne h1.mem (by decide) h
  · exact h2.ne h1.words (by decide) h
  · exact ownBlock_ne h1.log h2 (by decide) h.symm
theorem amO_New (b s : Nat) (g d : Int) (th : Nat) (w : World) (hth : th ≤ 1000) (x7 : Nat) (hx7 : (x7 : Int) = dBegin th) (W : List Int) (L : List Acc) :
    Calls Try.prog 27 #[i64 (b : Int), i64 (s : Int), i64 g, i64 d, i64 (th : Int)] w fun e w' => ∃ x, e = .returned (ptr x) ∧ Nw (amO b s g ⟨x, d, ⟨W, L, 0, (x7 : Int), 0, 0, 0, 0⟩⟩) w w' := by
  refine (add_New b s g d th w hth x7 hx7).mono ?_
  rintro e w' ⟨x, rfl, hz, hk, hb⟩
  exact ⟨x, rfl, fun k => k = x, ⟨hb, fun k => Iff.rfl⟩, hk, fun k h => by subst h; exact hz⟩
/-- a count's things do not hang on the words -/
theorem snO_wl {b s x : Nat} {t : SN} (W : List Int) (L : List Acc) {R : Nat → Prop} {w : World} (h : (snO b s x t).At R w) : (snO b s x { t with W := W, L := L }).At R w := ⟨h.lt, h.rx, h.at_⟩
/-- what stands behind i turns -/
structure XT (b s : Nat) (g : Int) (N i : Nat) (W : List Int) (L : List Acc) (ms : List Am) (t : SN) (on : Bool) (sums : List Int) : Prop where
  ei : EI b s g N W L ms i
  xi : XI b s W t.got sums i
  ni : NInv b s t
  tw : t.W = W
  tl : t.L = L
  fin : t.fin = false
  hon : t.got ≠ [] → on = true
  cnt : L.length ≤ i
  sn : sums.length ≤ i
section
variable {b s N i : Nat} {g : Int} {W : List Int} {L : List Acc} {ms : List Am} {t : SN} {on : Bool} {sums : List Int}
theorem XT.more (h : XT b s g N i W L ms t on sums) : XT b s g N (i + 1) W L ms t on sums :=
  ⟨⟨h.ei.mi, h.ei.ln, h.ei.bd, by have := h.ei.gl; omega, by have := h.ei.bg; omega, by have := h.ei.dn; omega⟩, h.xi.le (by omega), h.ni, h.tw, h.tl, h.fin, h.hon, by have := h.cnt; omega, by have := h.sn; omega⟩
theorem XT.step (h : XT b s g N i W L ms t on sums) {sums' : List Int} (hs : ∀ x ∈ sums, x ∈ sums') (hn : sums'.length ≤ i + 1) (hi : i ≤ 2000) (k : Nat) (hk : k < ms.length) (h9 : ms[k].t.st ≠ 9) :
    XT b s g N (i + 1) (aNext b s g ms[k].d (ms[k].at W L)).W (aNext b s g ms[k].d (ms[k].at W L)).L (ms.set k ⟨ms[k].x, ms[k].d, aNext b s g ms[k].d (ms[k].at W L)⟩) { t with W := (aNext b s g ms[k].d (ms[k].at W L)).W, L := (aNext b s g ms[k].d (ms[k].at W L)).L } on sums' := by
  have h1 := h.ei.step k hk hi h9
  have h2 := h.ei.other h.xi k hk hi
  have hm := h.ei.mi k hk
  have hlog := aNext_log (b := b) (s := s) (g := g) (d := ms[k].d) (ms[k].at W L) (by have := hm.inv.nx; have e : (ms[k].at W L).st = ms[k].t.st := rfl; omega)
  have hl : (ms[k].at W L).L = L := rfl
  rw [hl] at hlog
  have hln := h1.ln
  have hw := h.ei.ln
  have h3 := h.ni
  have e4 : t.W.length = N := by rw [h.tw]; exact hw
  have hc := h.cnt
  exact ⟨h1, h2.more hs, ⟨(show b + 4 + s ≤ (aNext b s g ms[k].d (ms[k].at W L)).W.length from by have := h3.ln; omega), (show (aNext b s g ms[k].d (ms[k].at W L)).W.length ≤ 10000 from by have := h3.wl; omega), h3.s1, h3.gb, h3.lb, h3.lt, h3.z⟩, rfl, rfl, h.fin, h.hon, by omega, hn⟩
/-- a step of the count that does not end it -/
theorem XT.count (h : XT b s g N i W L ms t on sums) {sums' : List Int} (hs : ∀ x ∈ sums, x ∈ sums') (hn : sums'.length ≤ i + 1) (hi : i ≤ 2000) (hsum : on = true → rd W (b + 1) = rd W (b + 2) → sumN W b s ∈ sums') :
    ((nNext b s t).fin = false → XT b s g N (i + 1) W (nNext b s t).L ms (nNext b s t) true sums') ∧ ((nNext b s t).fin = true → (nNext b s t).ex = true → (nNext b s t).n ∈ sums') ∧ (nNext b s t).W = W := by
  have h1 := h.xi
  have hw := h.tw
  rw [← hw] at h1
  have h2 := (h1.more hs).count h.ni h.fin hi (fun hg => by rw [hw]; exact hsum (h.hon hg))
  have hW : (nNext b s t).W = W := by rw [nNext_W]; exact hw
  refine ⟨fun hf => ?_, h2.2, hW⟩
  have h3 := h2.1 hf
  rw [hW] at h3
  have he := h.ei
  have hl := nNext_logle b s t
  rw [h.tl] at hl
  have hc := h.cnt
  exact ⟨⟨fun j hj => (he.mi j hj).other _ _ rfl (he.mi j hj).inv.lw, he.ln, he.bd, by have := he.gl; omega, by have := he.bg; omega, by have := he.dn; omega⟩, h3.le (by omega), h.ni.step, hW, rfl, hf, fun _ => rfl, by omega, hn⟩
end
end Go.Proofs.Ytlkniogapdhcpaa
