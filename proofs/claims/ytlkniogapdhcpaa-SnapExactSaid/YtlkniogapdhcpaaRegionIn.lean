/- wp_region_text in a round of a range over a function (the wide fence). -/
import Derived.Test.YtlkniogapdhcpaaRegionF
import Derived.OrdersIn
import Derived.TacticsIn
import Derived.RangeFuncCalls
namespace Go.Proofs.Ytlkniogapdhcpaa
open Go.RowKit
set_option linter.unusedVariables false
set_option linter.unusedSimpArgs false
def onlyN (K : Act → World → Prop) : Exit → Act → World → Prop
  | .normal, a, w => K a w
  | _, _, _ => False
theorem not_lets {K : Act → World → Prop} (h : LetsOut (onlyN K)) : False := by
  obtain ⟨_, _, h⟩ := h
  exact h
def noDefer (ops : Array Oper) : Bool := ops.all fun o => match o.op with | .defer _ => false | _ => true
theorem noDefer_at {ops : Array Oper} (h : noDefer ops = true) {i : Nat} {o : Oper} (ho : ops[i]? = some o) : ∀ c, o.op ≠ .defer c := by
  intro c hc
  unfold noDefer at h
  rw [Array.all_eq_true_iff_forall_mem] at h
  have := h o (Array.mem_of_getElem? ho)
  simp [hc] at this
section
variable {P : Program} {ops : Array Oper} {Q : Exit → Act → World → Prop} {K0 : Act → World → Prop}
theorem oper_in {l n : Nat} {o : Oper} {a : Act} {w : World} {K K' : Act → World → Prop} (hd : ∀ c, o.op ≠ .defer c) (h : o.wp P a w K (onlyN K0)) (hk : ∀ a w, K a w → K' a w) :
    o.wpIn (Fence.wide.inRound l) n P a w K' Q := by
  unfold Oper.wpIn
  unfold Oper.wp at h
  refine ⟨fun _ _ => trivial, ?_⟩
  rw [show (Fence.wide.inRound l).round = some l from rfl, Oper.semAt_some l _ o hd]
  generalize (execOp a.eval o).run P w = r at *
  cases r with
  | ok x w' =>
    cases x with
    | value v => exact hk _ _ h
    | skip => exact hk _ _ h
    | defer d => exact hk _ _ h
    | enter f args =>
      refine ⟨(fun h => by cases h), CallsIn.inRound l (callsIn_wide.2 (Calls.mono h fun e w'' he => ?_))⟩
      cases e with
      | returned u => exact hk _ _ he
      | panicked ch => exact he.elim
      | outgrown => exact (not_lets he).elim
    | row r args =>
      refine ⟨(fun h => by cases h), fun c cs _ => ?_⟩
      obtain ⟨v, w2, r1, s1⟩ := h c cs
      exact ⟨v, w2, hk _ _ r1, stepsIn_wide.2 s1⟩
    | _ => exact h.elim
  | halt x w' => cases x <;> exact h.elim
theorem wpAny_in {l n : Nat} (hnd : noDefer ops = true) (hq : ∀ a w, K0 a w → Q .normal a w) : ∀ (fuel : Nat) (listed : Array Bool) (a : Act) (w : World), wpAny P .any ops (onlyN K0) fuel listed a w → wpAnyIn (Fence.wide.inRound l) n P .any ops Q fuel listed a w := by
  intro fuel
  induction fuel with
  | zero => intro listed a w h; exact ⟨h.1, hq _ _ h.2⟩
  | succ fuel ih =>
    intro listed a w h
    refine ⟨fun e => hq _ _ (h.1 e), fun i hi => ?_⟩
    have h1 := h.2 i hi
    unfold wpOp at h1
    unfold wpOpIn
    cases ho : ops[i]? with
    | none => rw [ho] at h1; exact ih _ _ _ h1
    | some o =>
      rw [ho] at h1
      simp only at h1 ⊢
      by_cases hw : Region.wanted o (yielded ops a.tmps) = true
      · rw [if_pos hw] at h1 ⊢
        rcases h1 with h1 | ⟨_, h1⟩
        · exact oper_in (noDefer_at hnd ho) h1 (fun a w => ih _ a w)
        · exact (not_lets h1).elim
      · rw [if_neg hw] at h1 ⊢
        exact ⟨fun _ _ => trivial, ih _ _ _ h1⟩
theorem wpIn_region_text {l n : Nat} {id : Nat} {WI : (Nat → Bool) → World → Prop} {a cf : Act} {w : World} {vs : List Value} (hm : P.follows .mixedOrders = true) (hok : regOk ops = true) (hnd : noDefer ops = true)
    (hob : Oblig P ops WI ops.toList 0 a vs cf) (h0 : WI (fun _ => false) w.drew) (hend : ∀ S w, WI S w → (∀ i, i < ops.size → S i = true) → Q .normal cf w) :
    (Code.region id ops true).wpIn (Fence.wide.inRound l) n P Q a w :=
  wpIn_region_any hm (wpAny_in hnd (fun _ _ h => h) _ _ _ _ (any_region_text (Q := onlyN (Q .normal)) hm hok hob h0 hend))
theorem wpIn_region_free {l n : Nat} {id : Nat} {WI : (Nat → Bool) → (Nat → Value) → World → Prop} {a : Act} {cf : (Nat → Value) → Act} {w : World} {vs : List (Option Value)} (hm : P.follows .mixedOrders = true) (hok : regOk ops = true) (hnd : noDefer ops = true)
    (hob : ObligF P ops WI ops.toList 0 (fun _ => a) vs cf) (h0 : WI (fun _ => false) (fun _ => undef) w.drew) (hend : ∀ S g w, WI S g w → (∀ i, i < ops.size → S i = true) → Q .normal (cf g) w) :
    (Code.region id ops true).wpIn (Fence.wide.inRound l) n P Q a w :=
  wpIn_region_any hm (wpAny_in hnd (fun _ _ h => h) _ _ _ _ (any_region_free (Q := onlyN (Q .normal)) hm hok hob h0 hend))
end
end Go.Proofs.Ytlkniogapdhcpaa
