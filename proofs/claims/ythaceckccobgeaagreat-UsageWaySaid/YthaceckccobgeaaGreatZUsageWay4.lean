/- Contracts and plain laws for UsageWay, part 4: what the walk of the law leans on. -/
import Derived.RegionTactic
import Derived.Orders
import Derived.Deep.RegionLaw
import Derived.Test.YthaceckccobgeaaGreatZUsageWay0
import Derived.Test.YthaceckccobgeaaGreatZUsageWay1
import Derived.Test.YthaceckccobgeaaGreatZUsageWay2
import Derived.Test.YthaceckccobgeaaGreatZUsageWay3
namespace Go.Proofs.YthaceckccobgeaaGreat
open Go.RowKit
set_option linter.unusedVariables false
set_option linter.unusedSimpArgs false
def slotOf (a : Act) : Option Tmp → Value
 | some d => a.tmps.getD d undef
 | none => undef
def regOk (ops : Array Oper) : Bool :=
 Region.noSelect ops && (List.range ops.size).all fun i => match ops[i]? with
  | none => true
  | some o => (o.after.all fun e => !Region.binds .any e || decide (e.on < i)) &&
   (List.range ops.size).all fun j => match ops[j]? with
    | none => true
    | some o' => match o'.dst with
     | none => true
     | some d => (i == j || o.dst != some d) && (!(o.looksAt ops).contains d || ((decide (j < i) && o.after.any fun e => e.on == j && Region.binds .any e) || (decide (i < j) && o'.after.any fun e => e.on == i && Region.binds .any e)))
def StepOk (P : Program) (ops : Array Oper) (o : Oper) (c : Act) (w : World) (v : Value) (R : World → Prop) : Prop :=
 if Region.wanted o (yielded ops c.tmps) = true then o.wp P c w (fun a' w' => a'.defers = c.defers ∧ slotOf a' o.dst = v ∧ R w') (fun _ _ _ => False) else v = undef ∧ R w
def upd (S : Nat → Bool) (i : Nat) : Nat → Bool := fun j => if j = i then true else S j
def depsOk (S : Nat → Bool) (o : Oper) : Prop := ∀ e ∈ o.after, Region.binds .any e = true → S e.on = true
def closedS (ops : Array Oper) (S : Nat → Bool) : Prop := ∀ (i : Nat) (o : Oper), ops[i]? = some o → S i = true → depsOk S o
inductive Oblig (P : Program) (ops : Array Oper) (WI : (Nat → Bool) → World → Prop) : List Oper → Nat → Act → List Value → Act → Prop
 | nil {i : Nat} {c : Act} : Oblig P ops WI [] i c [] c
 | cons {o : Oper} {os : List Oper} {i : Nat} {c cf : Act} {vs : List Value} (v : Value)
  (h : ∀ S w, WI S w → S i = false → depsOk S o → closedS ops S → StepOk P ops o c w v (WI (upd S i)))
  (rest : Oblig P ops WI os (i + 1) (c.put o.dst v) vs cf) : Oblig P ops WI (o :: os) i c (v :: vs) cf
theorem StepOk.intro {P : Program} {ops : Array Oper} {o : Oper} {c : Act} {w : World} {v : Value} {R : World → Prop}
 (h : ∀ K : Act → World → Prop, (∀ a' w', a'.defers = c.defers → slotOf a' o.dst = v → R w' → K a' w') → if Region.wanted o (yielded ops c.tmps) = true then o.wp P c w K (fun _ _ _ => False) else K (c.put o.dst undef) w) : StepOk P ops o c w v R := by
 have hh := h (fun a' w' => a'.defers = c.defers ∧ slotOf a' o.dst = v ∧ R w') (fun a' w' h1 h2 h3 => ⟨h1, h2, h3⟩)
 unfold StepOk
 by_cases hw : Region.wanted o (yielded ops c.tmps) = true
 · rw [if_pos hw] at hh ⊢
   exact hh
 · rw [if_neg hw] at hh ⊢
   refine ⟨?_, hh.2.2⟩
   rw [← hh.2.1]
   cases hd : o.dst with
   | none => rfl
   | some d =>
    by_cases hlt : d < c.tmps.size
    · simp [slotOf, Act.put, Array.getD, hlt]
    · simp [slotOf, Act.put, Array.getD, hlt]
theorem put_lit (l : List Value) (df : List Deferred) (d : Nat) (v : Value) : (Act.mk l.toArray df).put (some d) v = Act.mk (l.set d v).toArray df := by simp [Act.put]
theorem put_none (a : Act) (v : Value) : a.put none v = a := rfl
section
variable {P : Program} {ops : Array Oper} {Q : Exit → Act → World → Prop}
theorem regOk_edge (h : regOk ops = true) {i : Nat} {o : Oper} (ho : ops[i]? = some o) {e : Edge} (he : e ∈ o.after) (hb : Region.binds .any e = true) : e.on < i := by
 have hi : i < ops.size := (Array.getElem?_eq_some_iff.1 ho).1
 simp only [regOk, Bool.and_eq_true, List.all_eq_true, List.mem_range] at h
 have h1 := h.2 i hi
 rw [ho] at h1
 simp only [Bool.and_eq_true, Array.all_eq_true_iff_forall_mem] at h1
 have h2 := h1.1 e he
 simpa [hb] using h2
theorem regOk_pair (h : regOk ops = true) {i j : Nat} {o o' : Oper} (ho : ops[i]? = some o) (ho' : ops[j]? = some o') {d : Tmp} (hd : o'.dst = some d) :
 (i = j ∨ o.dst ≠ some d) ∧ (d ∈ o.looksAt ops → (j < i ∧ ∃ e ∈ o.after, e.on = j ∧ Region.binds .any e = true) ∨ (i < j ∧ ∃ e ∈ o'.after, e.on = i ∧ Region.binds .any e = true)) := by
 have hi : i < ops.size := (Array.getElem?_eq_some_iff.1 ho).1
 have hj : j < ops.size := (Array.getElem?_eq_some_iff.1 ho').1
 simp only [regOk, Bool.and_eq_true, List.all_eq_true, List.mem_range] at h
 have h1 := h.2 i hi
 rw [ho] at h1
 simp only [Bool.and_eq_true, List.all_eq_true, List.mem_range] at h1
 have h2 := h1.2 j hj
 rw [ho'] at h2
 simp only [hd, Bool.and_eq_true, Bool.or_eq_true, beq_iff_eq, bne_iff_ne, Bool.not_eq_true', decide_eq_true_eq] at h2
 refine ⟨h2.1, fun hm => ?_⟩
 rcases h2.2 with hc | ⟨hlt, ha⟩ | ⟨hlt, ha⟩
 · have : (o.looksAt ops).contains d = true := by simpa using hm
   rw [hc] at this
   cases this
 · obtain ⟨k, hk, h3⟩ := Array.any_eq_true.1 ha
   simp only [Bool.and_eq_true, beq_iff_eq] at h3
   exact Or.inl ⟨hlt, _, Array.getElem_mem hk, h3.1, h3.2⟩
 · obtain ⟨k, hk, h3⟩ := Array.any_eq_true.1 ha
   simp only [Bool.and_eq_true, beq_iff_eq] at h3
   exact Or.inr ⟨hlt, _, Array.getElem_mem hk, h3.1, h3.2⟩
theorem upon_move {o : Oper} {a c : Act} {w : World} {v : Value} {R : World → Prop} (hsz : a.tmps.size = c.tmps.size) (he : execOp a.eval o = execOp c.eval o)
 (h : o.wp P c w (fun a' w' => a'.defers = c.defers ∧ slotOf a' o.dst = v ∧ R w') (fun _ _ _ => False)) : o.wp P a w (fun a' w' => a' = a.put o.dst v ∧ R w') Q := by
 have key : ∀ v' w', ((c.put o.dst v').defers = c.defers ∧ slotOf (c.put o.dst v') o.dst = v ∧ R w') → a.put o.dst v' = a.put o.dst v ∧ R w' := by
  rintro v' w' ⟨_, hs, hr⟩
  refine ⟨?_, hr⟩
  cases hd : o.dst with
  | none => rfl
  | some d =>
   rw [hd] at hs
   by_cases hlt : d < c.tmps.size
   · have : v' = v := by simpa [slotOf, Act.put, hlt, Array.getD] using hs
     rw [this]
   · have e1 : ∀ u, a.tmps.setIfInBounds d u = a.tmps := fun u => Array.setIfInBounds_eq_of_size_le (hsz ▸ Nat.le_of_not_lt hlt)
     simp [Act.put, e1]
 unfold Oper.wp at *
 rw [he]
 generalize (execOp c.eval o).run P w = r at *
 cases r with
 | ok n w' =>
  cases n with
  | value v' => exact key _ _ h
  | skip => exact key _ _ h
  | defer d =>
   have h1 := h.1
   exfalso
   cases hdst : o.dst <;> simp [Act.put, hdst] at h1
  | enter f args =>
   refine Calls.mono h fun e w'' hh => ?_
   cases e with
   | returned u => exact key _ _ hh
   | panicked ch => exact hh.elim
   | outgrown => exact absurd hh (fun ⟨_, _, x⟩ => x)
  | row r args => exact Rows.mono h fun u w'' hh => key _ _ hh
  | _ => exact h.elim
 | halt x w' => cases x <;> first | exact h.elim | exact absurd h id
structure At (ops : Array Oper) (a0 : Act) (vs : List Value) (S : Nat → Bool) (a : Act) : Prop where
 df : a.defers = a0.defers
 sz : a.tmps.size = a0.tmps.size
 own : ∀ (i : Nat) (o : Oper) (d : Tmp), ops[i]? = some o → o.dst = some d → S i = true → d < a0.tmps.size → a.tmps[d]? = vs[i]?
 old : ∀ (t : Tmp), (∀ (i : Nat) (o : Oper), ops[i]? = some o → S i = true → o.dst ≠ some t) → a.tmps[t]? = a0.tmps[t]?
theorem At.start (a0 : Act) (vs : List Value) : At ops a0 vs (fun _ => false) a0 := ⟨rfl, rfl, fun _ _ _ _ _ h => (by cases h), fun _ _ => rfl⟩
theorem At.step (hok : regOk ops = true) {a0 a : Act} {vs : List Value} {S : Nat → Bool} (h : At ops a0 vs S a) {i : Nat} {o : Oper} (ho : ops[i]? = some o) {v : Value} (hv : vs[i]? = some v) : At ops a0 vs (upd S i) (a.put o.dst v) := by
 cases hd : o.dst with
 | none =>
  refine ⟨h.df, h.sz, fun j o' d hj hdj hS hlt => ?_, fun t ht => h.old t fun j o' hj hS => ht j o' hj (by unfold upd; split <;> simp_all)⟩
  by_cases e : j = i
  · subst e
    rw [ho] at hj
    cases hj
    rw [hd] at hdj
    cases hdj
  · exact h.own j o' d hj hdj (by simpa [upd, e] using hS) hlt
 | some d0 =>
  refine ⟨h.df, by simpa [Act.put] using h.sz, fun j o' d hj hdj hS hlt => ?_, fun t ht => ?_⟩
  · by_cases e : j = i
    · subst e
      rw [ho] at hj
      cases hj
      rw [hd] at hdj
      cases hdj
      have : d0 < a.tmps.size := by rw [h.sz]; exact hlt
      simp [Act.put, hv, this]
    · have hne : d0 ≠ d := by
       intro e'
       subst e'
       rcases (regOk_pair hok ho hj hdj).1 with e2 | e2
       · exact e e2.symm
       · exact e2 hd
      have := h.own j o' d hj hdj (by simpa [upd, e] using hS) hlt
      simp only [Act.put, Array.getElem?_setIfInBounds_ne hne, this]
  · have hne : d0 ≠ t := fun e' => ht i o ho (by simp [upd]) (by rw [hd, e'])
    simp only [Act.put, Array.getElem?_setIfInBounds_ne hne]
    exact h.old t fun j o' hj hS => ht j o' hj (by unfold upd; split <;> simp_all)
theorem At.same {a0 a c : Act} {vs : List Value} {S S' : Nat → Bool} (h : At ops a0 vs S a) (h' : At ops a0 vs S' c) {t : Tmp} (hlt : t < a0.tmps.size)
 (hS : ∀ (j : Nat) (o : Oper), ops[j]? = some o → o.dst = some t → S j = S' j) : a.tmps[t]? = c.tmps[t]? := by
 by_cases hex : ∃ (j : Nat) (o : Oper), ops[j]? = some o ∧ o.dst = some t ∧ S j = true
 · obtain ⟨j, o, hj, hd, hs⟩ := hex
   rw [h.own j o t hj hd hs hlt, h'.own j o t hj hd ((hS j o hj hd).symm.trans hs) hlt]
 · rw [h.old t fun i o hi hs hd => hex ⟨i, o, hi, hd, hs⟩, h'.old t fun i o hi hs hd => hex ⟨i, o, hi, hd, (hS i o hi hd).trans hs⟩]
theorem oblig_at (hok : regOk ops = true) {WI : (Nat → Bool) → World → Prop} {a0 cf : Act} : ∀ {os : List Oper} {i : Nat} {c : Act} {vs0 vs : List Value},
 Oblig P ops WI os i c vs cf → vs0.length = i → (∀ k, os[k]? = ops[i + k]?) → At ops a0 (vs0 ++ vs) (fun j => decide (j < i)) c →
 (∀ (j : Nat) (o : Oper), i ≤ j → ops[j]? = some o → ∃ (v : Value) (cj : Act), (vs0 ++ vs)[j]? = some v ∧ At ops a0 (vs0 ++ vs) (fun k => decide (k < j)) cj ∧ ∀ S w, WI S w → S j = false → depsOk S o → closedS ops S → StepOk P ops o cj w v (WI (upd S j))) ∧
 At ops a0 (vs0 ++ vs) (fun k => decide (k < ops.size)) cf := by
 intro os
 induction os with
 | nil =>
  intro i c vs0 vs h hl hos hat
  cases h
  have hn : ∀ k, ops[i + k]? = none := fun k => by simpa using (hos k).symm
  have hsz : ops.size ≤ i := by have := hn 0; simpa using this
  refine ⟨fun j o hij ho => ?_, ?_⟩
  · have := hn (j - i)
    rw [show i + (j - i) = j from by omega, ho] at this
    cases this
  · refine ⟨hat.df, hat.sz, fun j o d hj hd hS hlt => hat.own j o d hj hd (by have := (Array.getElem?_eq_some_iff.1 hj).1; simp; omega) hlt, fun t ht => hat.old t fun j o hj _ => ht j o hj (by have := (Array.getElem?_eq_some_iff.1 hj).1; simpa using this)⟩
 | cons o os ih =>
  intro i c vs0 vs h hl hos hat
  cases h with
  | @cons _ _ _ _ _ vs v h rest =>
   have ho : ops[i]? = some o := by simpa using (hos 0).symm
   have hv : (vs0 ++ v :: vs)[i]? = some v := by rw [List.getElem?_append_right (by omega), hl]; simp
   have hap : vs0 ++ v :: vs = (vs0 ++ [v]) ++ vs := by simp
   have hat' : At ops a0 (vs0 ++ v :: vs) (fun j => decide (j < i + 1)) (c.put o.dst v) := by
    have hs := At.step hok hat ho hv
    have he : upd (fun j => decide (j < i)) i = fun j => decide (j < i + 1) := by
     funext j
     unfold upd
     split
     · subst_vars; simp
     · simp only [decide_eq_decide]; omega
    rw [he] at hs
    exact hs
   rw [hap] at hat'
   have := ih rest (by simp [hl]) (fun k => by have := hos (k + 1); simpa [Nat.add_assoc, Nat.add_comm 1 k] using this) hat'
   rw [← hap] at this
   refine ⟨fun j oj hij hj => ?_, this.2⟩
   by_cases e : j = i
   · subst e
     rw [ho] at hj
     cases hj
     exact ⟨v, c, hv, hat, h⟩
   · exact this.1 j oj (by omega) hj
theorem act_ext {a c : Act} (h1 : a.defers = c.defers) (h2 : ∀ t : Nat, a.tmps[t]? = c.tmps[t]?) : a = c := by
 cases a
 cases c
 simp only at h1 h2
 subst h1
 congr 1
 exact Array.ext_getElem? h2
theorem any_region_text {WI : (Nat → Bool) → World → Prop} {a cf : Act} {w : World} {vs : List Value} (hm : P.follows .mixedOrders = true) (hok : regOk ops = true)
 (hob : Oblig P ops WI ops.toList 0 a vs cf) (h0 : WI (fun _ => false) w.drew) (hend : ∀ S w, WI S w → (∀ i, i < ops.size → S i = true) → Q .normal cf w) :
 wpAny P .any ops Q ops.size (Array.replicate ops.size false) a { w with drawn := w.drawn + 1 } := by
 have hob' := oblig_at (a0 := a) (vs0 := []) hok hob rfl (fun k => by simp) (by simpa using At.start a vs)
 simp only [List.nil_append] at hob'
 obtain ⟨hsteps, hfin⟩ := hob'
 have main : ∀ (fuel : Nat) (listed : Array Bool) (b : Act) (u : World), listed.size = ops.size → listed.toList.count false = fuel →
  (∀ (i : Nat) (o : Oper), ops[i]? = some o → listed.getD i false = true → depsOk (fun j => listed.getD j false) o) →
  WI (fun j => listed.getD j false) u → At ops a vs (fun j => listed.getD j false) b → wpAny P .any ops Q fuel listed b u := by
  intro fuel
  induction fuel with
  | zero =>
   intro listed b u hs hc hcl hwi hat
   have hall : ∀ i, i < ops.size → listed.getD i false = true := by
    intro i hi
    have : ¬ false ∈ listed.toList := List.count_eq_zero.1 hc
    have hi' : i < listed.size := by omega
    cases hv : listed.getD i false
    · exfalso
      apply this
      have : listed[i] = false := by simpa [Array.getD, hi'] using hv
      rw [← this]
      exact Array.getElem_mem_toList hi'
    · rfl
   refine ⟨?_, ?_⟩
   · apply List.eq_nil_iff_forall_not_mem.2
     intro j hj
     obtain ⟨h1, o, ho, _⟩ := mem_ready.1 hj
     have hj' := (Array.getElem?_eq_some_iff.1 ho).1
     have := hall j hj'
     simp [Array.getD, show j < listed.size from by omega] at this h1
     rw [this] at h1
     cases h1
   · have he : b = cf := act_ext (hat.df.trans hfin.df.symm) fun t => by
      by_cases hlt : t < a.tmps.size
      · exact hat.same hfin hlt fun j o hj _ => by have := (Array.getElem?_eq_some_iff.1 hj).1; exact (hall j this).trans (by simpa using this)
      · rw [Array.getElem?_eq_none (hat.sz ▸ Nat.le_of_not_lt hlt), Array.getElem?_eq_none (hfin.sz ▸ Nat.le_of_not_lt hlt)]
     rw [he]
     exact hend _ _ hwi hall
  | succ fuel ih =>
   intro listed b u hs hc hcl hwi hat
   refine ⟨fun hr => ?_, fun i hi => ?_⟩
   · exfalso
     have hall : ∀ n i, i < n → i < ops.size → listed.getD i false = true := by
      intro n
      induction n with
      | zero => intro i hi; omega
      | succ n ihn =>
       intro i hin hi
       cases hv : listed.getD i false
       · exfalso
         have ho : ops[i]? = some ops[i] := Array.getElem?_eq_getElem hi
         have hmem : i ∈ Region.ready .any ops listed := mem_ready.2 ⟨by simp [Array.getD, show i < listed.size from by omega] at hv ⊢; exact hv, ops[i], ho, fun e he hb => by
          have := regOk_edge hok ho he hb
          exact ihn e.on (by omega) (by omega)⟩
         rw [hr] at hmem
         cases hmem
       · rfl
     have hf : false ∈ listed.toList := by
      apply List.count_pos_iff.1
      omega
     obtain ⟨k, hk, hkv⟩ := List.getElem_of_mem hf
     have hk' : k < listed.size := by simpa using hk
     have := hall (k + 1) k (by omega) (by omega)
     have e1 : listed[k] = false := by simpa using hkv
     simp [Array.getD, hk', e1] at this
   · obtain ⟨h1, o, ho, hdeps⟩ := mem_ready.1 hi
     have hio := (Array.getElem?_eq_some_iff.1 ho).1
     have hil : i < listed.size := by omega
     have h1' : listed.getD i false = false := by simp [Array.getD, hil] at h1 ⊢; exact h1
     obtain ⟨v, cj, hv, hatc, hst⟩ := hsteps i o (Nat.zero_le _) ho
     have hstep := hst _ u hwi h1' (fun e he hb => hdeps e he hb) hcl
     have hsame : ∀ t, t ∈ o.looksAt ops → b.tmps[t]? = cj.tmps[t]? := by
      intro t ht
      by_cases hlt : t < a.tmps.size
      · refine hat.same hatc hlt fun j oj hj hd => ?_
        rcases (regOk_pair hok ho hj hd).2 ht with ⟨hji, e, he, heo, heb⟩ | ⟨hij, e, he, heo, heb⟩
        · have h5 : listed.getD j false = true := heo ▸ hdeps e he heb
          show listed.getD j false = decide (j < i)
          rw [h5, decide_eq_true hji]
        · show listed.getD j false = decide (j < i)
          rw [decide_eq_false (by omega)]
          cases h5 : listed.getD j false with
          | false => rfl
          | true =>
           have h6 : listed.getD e.on false = true := hcl j oj hj h5 e he heb
           rw [heo, h1'] at h6
           cases h6
      · rw [Array.getElem?_eq_none (hat.sz ▸ Nat.le_of_not_lt hlt), Array.getElem?_eq_none (hatc.sz ▸ Nat.le_of_not_lt hlt)]
     have hns := Region.noSelect_spec (by simp only [regOk, Bool.and_eq_true] at hok; exact hok.1) i o
     have hex : execOp b.eval o = execOp cj.eval o := execOp_congr o (fun cs bb => hns cs bb ho) fun x hx => by
      cases x with
      | tmp t =>
       have := hsame t (List.mem_append_left _ (List.mem_filterMap.2 ⟨.tmp t, by simpa using hx, rfl⟩))
       simp only [Act.eval, Array.getD_eq_getD_getElem?, this]
      | _ => rfl
     have hwa : Region.wanted o (yielded ops b.tmps) = Region.wanted o (yielded ops cj.tmps) := by
      unfold Region.wanted
      cases hg : o.guard with
      | none => rfl
      | some gw =>
       obtain ⟨g, want⟩ := gw
       have hy : yielded ops b.tmps g = yielded ops cj.tmps g := by
        unfold yielded
        cases ht : (ops[g]?).bind (·.dst) with
        | none => rfl
        | some t =>
         have := hsame t (List.mem_append_right _ (by simp [hg, ht]))
         simp [this]
       simp only [hy]
     have hset : (fun j => (listed.setIfInBounds i true).getD j false) = upd (fun j => listed.getD j false) i := by
      funext j
      unfold upd
      by_cases e : j = i
      · subst e; simp [Array.getD, hil]
      · rw [if_neg e, getD_set_ne _ (Ne.symm e)]
     have hnext : ∀ u', WI (upd (fun j => listed.getD j false) i) u' → wpAny P .any ops Q fuel (listed.setIfInBounds i true) (b.put o.dst v) u' := by
      intro u' hu'
      refine ih _ _ _ (by simpa using hs) ?_ ?_ ?_ ?_
      · have hv0 : listed.toList[i]'(by simpa using hil) = false := by simpa [Array.getD, hil] using h1'
        have e1 : (listed.setIfInBounds i true).toList = listed.toList.set i true := by simp [Array.toList_setIfInBounds]
        rw [e1, List.count_set (by simpa using hil), hc, hv0]
        simp
      · intro j oj hj hS e he hb
        have hS' : upd (fun j => listed.getD j false) i j = true := by rw [← hset]; exact hS
        have : upd (fun j => listed.getD j false) i e.on = true := by
         unfold upd
         split
         · rfl
         · by_cases ej : j = i
           · subst ej
             rw [ho] at hj
             cases hj
             exact hdeps e he hb
           · exact hcl j oj hj (by simpa [upd, ej] using hS') e he hb
        exact (congrFun hset e.on).trans this
      · rw [hset]; exact hu'
      · rw [hset]; exact At.step hok hat ho hv
     unfold wpOp
     rw [ho]
     unfold StepOk at hstep
     show if Region.wanted o (yielded ops b.tmps) = true then _ else _
     by_cases hw : Region.wanted o (yielded ops b.tmps) = true
     · rw [if_pos hw]
       rw [if_pos (hwa ▸ hw)] at hstep
       exact Or.inl (Oper.wp_mono (fun a' w' ⟨e1, e2⟩ => e1 ▸ hnext _ e2) (upon_move (hat.sz.trans hatc.sz.symm) hex hstep))
     · rw [if_neg hw]
       rw [if_neg (hwa ▸ hw)] at hstep
       rw [← hstep.1]
       exact hnext _ hstep.2
 refine main _ _ _ _ (by simp) (by simp) (fun i o ho h => by simp [Array.getD] at h) ?_ ?_
 · have : (fun j => (Array.replicate ops.size false).getD j false) = fun _ => false := by funext j; simp [Array.getD]
   rw [this]
   exact h0
 · have : (fun j => (Array.replicate ops.size false).getD j false) = fun _ => false := by funext j; simp [Array.getD]
   rw [this]
   exact At.start a vs
theorem wp_region_text {id : Nat} {WI : (Nat → Bool) → World → Prop} {a cf : Act} {w : World} {vs : List Value} (hm : P.follows .mixedOrders = true) (hok : regOk ops = true)
 (hob : Oblig P ops WI ops.toList 0 a vs cf) (h0 : WI (fun _ => false) w.drew) (hend : ∀ S w, WI S w → (∀ i, i < ops.size → S i = true) → Q .normal cf w) :
 (Code.region id ops true).wp P Q a w := wp_region_any hm (any_region_text hm hok hob h0 hend)
end
end Go.Proofs.YthaceckccobgeaaGreat

namespace Go.Proofs.YthaceckccobgeaaGreat
open Go.RowKit
set_option linter.unusedVariables false
set_option linter.unusedSimpArgs false
set_option maxRecDepth 100000
def xUp (by_ : Nat) (n : Int) : Int := bits BinOp.xor IntKind.u32 n (n * 2 ^ by_ % 4294967296)
def xDn (by_ : Nat) (n : Int) : Int := bits BinOp.xor IntKind.u32 n (n / 2 ^ by_)
def dSt (y : Int) : Nat → Int
 | 0 => y
 | 1 => xUp 13 y
 | 2 => xDn 17 (xUp 13 y)
 | _ => xUp 5 (xDn 17 (xUp 13 y))
theorem bits_bd (op : BinOp) (a b : Int) : 0 ≤ bits op IntKind.u32 a b ∧ bits op IntKind.u32 a b < 4294967296 := by
 unfold bits
 cases op <;> simp only [IntKind.wrap_u32] <;> omega
theorem dSt_bd (y : Int) (h : 0 ≤ y ∧ y < 4294967296) (i : Nat) : 0 ≤ dSt y i ∧ dSt y i < 4294967296 := by
 match i with
 | 0 => exact h
 | 1 => rw [dSt]; unfold xUp; exact bits_bd _ _ _
 | 2 => rw [dSt]; unfold xDn; exact bits_bd _ _ _
 | n + 3 => show 0 ≤ xUp 5 _ ∧ xUp 5 _ < _; unfold xUp; exact bits_bd _ _ _
def dNext (x : Int) : Int := dSt (if 1 ≤ x ∧ x < 4294967296 then x else 1) 3
end Go.Proofs.YthaceckccobgeaaGreat

namespace Go.Proofs.YthaceckccobgeaaGreat
open Go.RowKit
set_option linter.unusedVariables false
set_option linter.unusedSimpArgs false
structure AS where
 W : List Int
 L : List Acc
 st : Nat
 x : Int
 lv : Int
 sp : Nat
 w : Int
 v : Int
def p2 (n : Int) : Prop := n = 1 ∨ n = 2 ∨ n = 4 ∨ n = 8
section
variable (b s : Nat) (g d : Int)
def aMiss (t : AS) : AS := if t.lv < s then { t with st := 8 } else { t with st := 0, x := dNext t.x }
def aNext (t : AS) : AS :=
  match t.st with
  | 0 => { t with L := t.L ++ [⟨1, (b + 3 : Nat), rd t.W (b + 3), 0, false⟩], lv := rd t.W (b + 3), sp := b + 4 + (t.x % rd t.W (b + 3)).toNat, st := 1 }
  | 1 => { t with L := t.L ++ [⟨1, t.sp, rd t.W t.sp, 0, false⟩], w := rd t.W t.sp, v := pVal (rd t.W t.sp) + d, st := if max (pVal (rd t.W t.sp) + d) (-(pVal (rd t.W t.sp) + d)) < g then 2 else 3 }
  | 2 => let u : AS := { t with W := casW t.W t.sp t.w (pNext6 t.w t.v), L := t.L ++ [⟨3, t.sp, t.w, pNext6 t.w t.v, rd t.W t.sp == t.w⟩] }
         if rd t.W t.sp = t.w then { u with st := 9 } else aMiss s u
  | 3 => { t with W := t.W.set (b + 1) (wrap64 (rd t.W (b + 1) + 1)), L := t.L ++ [⟨2, (b + 1 : Nat), 1, wrap64 (rd t.W (b + 1) + 1), false⟩], st := 4 }
  | 4 => { t with W := casW t.W t.sp t.w (pNext6 t.w 0), L := t.L ++ [⟨3, t.sp, t.w, pNext6 t.w 0, rd t.W t.sp == t.w⟩], st := if rd t.W t.sp = t.w then 5 else 7 }
  | 5 => { t with W := t.W.set b (wrap64 (rd t.W b + t.v)), L := t.L ++ [⟨2, b, t.v, wrap64 (rd t.W b + t.v), false⟩], st := 6 }
  | 6 => { t with W := t.W.set (b + 2) (wrap64 (rd t.W (b + 2) + 1)), L := t.L ++ [⟨2, (b + 2 : Nat), 1, wrap64 (rd t.W (b + 2) + 1), false⟩], st := 9 }
  | 7 => aMiss s { t with W := t.W.set (b + 2) (wrap64 (rd t.W (b + 2) + 1)), L := t.L ++ [⟨2, (b + 2 : Nat), 1, wrap64 (rd t.W (b + 2) + 1), false⟩] }
  | 8 => { t with W := casW t.W (b + 3) t.lv (2 * t.lv), L := t.L ++ [⟨3, (b + 3 : Nat), t.lv, 2 * t.lv, rd t.W (b + 3) == t.lv⟩], x := dNext t.x, st := 0 }
  | _ => t
def aStp (t : AS) : AS × Bool := (aNext b s g d t, decide ((aNext b s g d t).st = 9))
structure AInv (t : AS) : Prop where
 ln : b + 4 + s ≤ t.W.length
 wl : t.W.length ≤ 10000
 s1 : p2 s
 g1 : 1 ≤ g ∧ g ≤ 2147483647
 d1 : -4398046511104 ≤ d ∧ d ≤ 4398046511104
 lw : p2 (rd t.W (b + 3)) ∧ rd t.W (b + 3) ≤ s
 xb : 0 ≤ t.x ∧ t.x < 4294967296
 nx : t.st ≤ 9
 lb : 1 ≤ t.st → t.st ≤ 8 → p2 t.lv ∧ t.lv ≤ s
 pb : 1 ≤ t.st → t.st ≤ 8 → b + 4 ≤ t.sp ∧ t.sp < b + 4 + s
 vb : t.st = 2 → -g < t.v ∧ t.v < g
 gr : t.st = 8 → t.lv < s
variable {b s g d}
theorem dNext_bd (x : Int) : 0 ≤ dNext x ∧ dNext x < 4294967296 := by
 unfold dNext
 exact dSt_bd _ (by split <;> omega) 3
theorem aMiss_W (s : Nat) (t : AS) : (aMiss s t).W = t.W := by unfold aMiss; split <;> rfl
theorem aMiss_L (s : Nat) (t : AS) : (aMiss s t).L = t.L := by unfold aMiss; split <;> rfl
theorem aNext_over {t : AS} (h : t.st = 9) : aNext b s g d t = t := by simp [aNext, h]
theorem st_cases {n : Nat} (h : n ≤ 9) : n = 0 ∨ n = 1 ∨ n = 2 ∨ n = 3 ∨ n = 4 ∨ n = 5 ∨ n = 6 ∨ n = 7 ∨ n = 8 ∨ n = 9 := by omega
theorem aNext_len (t : AS) : (aNext b s g d t).W.length = t.W.length := by
 unfold aNext
 split <;> first | rfl | (simp [casW_length, aMiss_W]; done) | (split <;> simp [casW_length, aMiss_W]; done) | simp [casW_length]
theorem aNext_log (t : AS) (h : t.st < 9) : (aNext b s g d t).L.length = t.L.length + 1 := by
 obtain ⟨W, L, st, x, lv, sp, w, v⟩ := t
 have h' : st < 9 := h
 have h9 : st = 0 ∨ st = 1 ∨ st = 2 ∨ st = 3 ∨ st = 4 ∨ st = 5 ∨ st = 6 ∨ st = 7 ∨ st = 8 := by omega
 clear h h'
 rcases h9 with rfl | rfl | rfl | rfl | rfl | rfl | rfl | rfl | rfl <;> simp only [aNext] <;> (try split) <;> simp [aMiss_L]
theorem p2_double {l s : Int} (hl : p2 l) (hs : p2 s) (h : l < s) : p2 (2 * l) ∧ 2 * l ≤ s := by
 unfold p2 at *
 omega
theorem AInv.miss {t : AS} (ln : b + 4 + s ≤ t.W.length) (wl : t.W.length ≤ 10000) (s1 : p2 s) (g1 : 1 ≤ g ∧ g ≤ 2147483647) (d1 : -4398046511104 ≤ d ∧ d ≤ 4398046511104) (lw : p2 (rd t.W (b + 3)) ∧ rd t.W (b + 3) ≤ s) (xb : 0 ≤ t.x ∧ t.x < 4294967296)
 (lb : p2 t.lv ∧ t.lv ≤ s) (pb : b + 4 ≤ t.sp ∧ t.sp < b + 4 + s) : AInv b s g d (aMiss s t) := by
 unfold aMiss
 split
 · rename_i hc
   exact ⟨ln, wl, s1, g1, d1, lw, xb, by show (8 : Nat) ≤ 9; omega, fun _ _ => lb, fun _ _ => pb, fun h => by simp at h, fun _ => hc⟩
 · exact ⟨ln, wl, s1, g1, d1, lw, dNext_bd _, by show (0 : Nat) ≤ 9; omega, fun h => by simp at h, fun h => by simp at h, fun h => by simp at h, fun h => by simp at h⟩
set_option maxHeartbeats 1000000 in
theorem AInv.step {t : AS} (h : AInv b s g d t) : AInv b s g d (aNext b s g d t) := by
 obtain ⟨W, L, st, x, lv, sp, w, v⟩ := t
 obtain ⟨ln, wl, s1, g1, d1, lw, xb, nx, lb, pb, vb, gr⟩ := h
 simp only at *
 rcases st_cases nx with rfl | rfl | rfl | rfl | rfl | rfl | rfl | rfl | rfl | rfl
 · have h1 : 1 ≤ rd W (b + 3) := by have := lw.1; unfold p2 at this; omega
   have h2 := Int.emod_nonneg x (show rd W (b + 3) ≠ 0 by omega)
   have h3 := Int.emod_lt_of_pos x (show 0 < rd W (b + 3) by omega)
   have hp : b + 4 ≤ b + 4 + (x % rd W (b + 3)).toNat ∧ b + 4 + (x % rd W (b + 3)).toNat < b + 4 + s := by
    have := lw.2
    omega
   exact ⟨ln, wl, s1, g1, d1, lw, xb, by show (1 : Nat) ≤ 9; omega, fun _ _ => lw, fun _ _ => hp, fun h => by simp [aNext] at h, fun h => by simp [aNext] at h⟩
 · have lb' := lb (by omega) (by omega)
   have pb' := pb (by omega) (by omega)
   refine ⟨ln, wl, s1, g1, d1, lw, xb, ?_, fun _ _ => lb', fun _ _ => pb', ?_, ?_⟩
   · show (if max (pVal (rd W sp) + d) (-(pVal (rd W sp) + d)) < g then 2 else 3) ≤ 9
     split <;> omega
   · intro h
     have h' : (if max (pVal (rd W sp) + d) (-(pVal (rd W sp) + d)) < g then 2 else 3) = 2 := h
     show -g < pVal (rd W sp) + d ∧ pVal (rd W sp) + d < g
     split at h'
     · omega
     · omega
   · intro h
     have h' : (if max (pVal (rd W sp) + d) (-(pVal (rd W sp) + d)) < g then 2 else 3) = 8 := h
     split at h' <;> omega
 · have lb' := lb (by omega) (by omega)
   have pb' := pb (by omega) (by omega)
   have hne : ¬ (b + 3 = sp ∧ sp < W.length) := by omega
   have hl : (casW W sp w (pNext6 w v)).length = W.length := casW_length _ _ _ _
   have hr : rd (casW W sp w (pNext6 w v)) (b + 3) = rd W (b + 3) := by rw [rd_casW, if_neg (fun h => hne h.1)]
   by_cases hc : rd W sp = w
   · have e : aNext b s g d ⟨W, L, 2, x, lv, sp, w, v⟩ = ⟨casW W sp w (pNext6 w v), L ++ [⟨3, sp, w, pNext6 w v, rd W sp == w⟩], 9, x, lv, sp, w, v⟩ := by simp [aNext, hc]
     rw [e]
     exact ⟨by rw [hl]; exact ln, by rw [hl]; exact wl, s1, g1, d1, by rw [hr]; exact lw, xb, by show (9 : Nat) ≤ 9; omega, fun _ h => by simp at h, fun _ h => by simp at h, fun h => by simp at h, fun h => by simp at h⟩
   · have e : aNext b s g d ⟨W, L, 2, x, lv, sp, w, v⟩ = aMiss s ⟨casW W sp w (pNext6 w v), L ++ [⟨3, sp, w, pNext6 w v, rd W sp == w⟩], 2, x, lv, sp, w, v⟩ := by simp [aNext, hc]
     rw [e]
     exact AInv.miss (by rw [hl]; exact ln) (by rw [hl]; exact wl) s1 g1 d1 (by rw [hr]; exact lw) xb lb' pb'
 · have lb' := lb (by omega) (by omega)
   have pb' := pb (by omega) (by omega)
   exact ⟨by simpa [aNext] using ln, by simpa [aNext] using wl, s1, g1, d1, by simpa [aNext, rd_set] using lw, xb, by show (4 : Nat) ≤ 9; omega, fun _ _ => lb', fun _ _ => pb', fun h => by simp [aNext] at h, fun h => by simp [aNext] at h⟩
 · have lb' := lb (by omega) (by omega)
   have pb' := pb (by omega) (by omega)
   have hne : ¬ (b + 3 = sp ∧ sp < W.length) := by omega
   have hl : (casW W sp w (pNext6 w 0)).length = W.length := casW_length _ _ _ _
   have hr : rd (casW W sp w (pNext6 w 0)) (b + 3) = rd W (b + 3) := by rw [rd_casW, if_neg (fun h => hne h.1)]
   refine ⟨by show _ ≤ (casW W sp w (pNext6 w 0)).length; rw [hl]; exact ln, by show (casW W sp w (pNext6 w 0)).length ≤ _; rw [hl]; exact wl, s1, g1, d1, by show p2 (rd (casW W sp w (pNext6 w 0)) (b + 3)) ∧ rd (casW W sp w (pNext6 w 0)) (b + 3) ≤ _; rw [hr]; exact lw, xb, ?_, fun _ _ => lb', fun _ _ => pb', fun h => ?_, fun h => ?_⟩
   · show (if rd W sp = w then 5 else 7) ≤ 9
     split <;> omega
   · have h' : (if rd W sp = w then 5 else 7) = 2 := h
     split at h' <;> omega
   · have h' : (if rd W sp = w then 5 else 7) = 8 := h
     split at h' <;> omega
 · have lb' := lb (by omega) (by omega)
   have pb' := pb (by omega) (by omega)
   exact ⟨by simpa [aNext] using ln, by simpa [aNext] using wl, s1, g1, d1, by simpa [aNext, rd_set] using lw, xb, by show (6 : Nat) ≤ 9; omega, fun _ _ => lb', fun _ _ => pb', fun h => by simp [aNext] at h, fun h => by simp [aNext] at h⟩
 · exact ⟨by simpa [aNext] using ln, by simpa [aNext] using wl, s1, g1, d1, by simpa [aNext, rd_set] using lw, xb, by show (9 : Nat) ≤ 9; omega, fun _ h => by simp [aNext] at h, fun _ h => by simp [aNext] at h, fun h => by simp [aNext] at h, fun h => by simp [aNext] at h⟩
 · have lb' := lb (by omega) (by omega)
   have pb' := pb (by omega) (by omega)
   exact AInv.miss (t := ⟨W.set (b + 2) (wrap64 (rd W (b + 2) + 1)), L ++ [⟨2, (b + 2 : Nat), 1, wrap64 (rd W (b + 2) + 1), false⟩], 7, x, lv, sp, w, v⟩) (by simpa using ln) (by simpa using wl) s1 g1 d1 (by simpa [rd_set] using lw) xb lb' pb'
 · have lb' := lb (by omega) (by omega)
   have pb' := pb (by omega) (by omega)
   have hd := p2_double lb'.1 s1 (gr rfl)
   have hl : (casW W (b + 3) lv (2 * lv)).length = W.length := casW_length _ _ _ _
   have hr : p2 (rd (casW W (b + 3) lv (2 * lv)) (b + 3)) ∧ rd (casW W (b + 3) lv (2 * lv)) (b + 3) ≤ s := by
    rw [rd_casW]
    split
    · exact hd
    · exact lw
   exact ⟨by show _ ≤ (casW W (b + 3) lv (2 * lv)).length; rw [hl]; exact ln, by show (casW W (b + 3) lv (2 * lv)).length ≤ _; rw [hl]; exact wl, s1, g1, d1, hr, dNext_bd _, by show (0 : Nat) ≤ 9; omega, fun h => by simp [aNext] at h, fun h => by simp [aNext] at h, fun h => by simp [aNext] at h, fun h => by simp [aNext] at h⟩
 · rw [aNext_over rfl]
   exact ⟨ln, wl, s1, g1, d1, lw, xb, nx, fun _ h => by simp at h, fun _ h => by simp at h, fun h => by simp at h, fun h => by simp at h⟩
end
end Go.Proofs.YthaceckccobgeaaGreat

namespace Go.Proofs.YthaceckccobgeaaGreat
open Go.RowKit
set_option linter.unusedVariables false
set_option linter.unusedSimpArgs false
structure P12 where
 tt : Int
 s : Nat
 g : Int
 lm : Int
 r : Int
 K : Nat
 P : List Int
 LL : List Int
 nd : Nat
 n : Int
 th : Nat
 path : List Nat
structure S12 where
 W : List Int
 L : List Acc
 ph : Nat
 at_ : Nat
 cl : CS
 po : PS
 ad : AS
 live : Int
 err : Int
 on : Int
 ond : Int
section
variable (p : P12)
def P12.q : Nat := p.P.length * (6 + 2 * p.s)
def P12.av (v : Nat) : Nat := v * (6 + 2 * p.s) + 1
def P12.le (v u : Nat) : Nat := v * (6 + 2 * p.s) + 2 + u
def P12.ct (v : Nat) : Nat := v * (6 + 2 * p.s) + 2 + p.s
def P12.u : Nat := p.th % p.s
def P12.v (i : Nat) : Nat := p.path.getD i 0
def S12.c (t : S12) : CS := { t.cl with W := t.W, L := t.L }
def S12.pl (t : S12) : PS := { t.po with W := t.W, L := t.L }
def S12.a (t : S12) : AS := { t.ad with W := t.W, L := t.L }
def S12.tk (t : S12) : Nat := p.q + 2 * t.cl.n
def hd16 (k : Nat) (w : Int) : Int := w % 18446744073709551616 / 4294967296 * 16 + k
def po0 : PS := ⟨[], [], 0, 0, 0, 0, false⟩
def ad0 : AS := ⟨[], [], 0, dBegin p.th, 0, 0, 0, 0⟩
def cl0 : CS := ⟨[], [], 0, false, 0, 0, 0, 0⟩
def claimed12 (t : S12) : S12 := if t.cl.fin = 0 then t else if t.cl.fin = 2 then { t with ph := 6, err := 3 } else { t with ph := 1, po := po0 }
def pooled12 (t : S12) : S12 :=
 if t.po.next ≠ 7 then t
 else if t.po.bad = true then { t with ph := 2, err := 4, ond := (p.v t.at_ : Nat) }
 else if t.at_ + 1 = p.path.length then { t with at_ := t.at_ + 1, ph := 3 }
 else { t with at_ := t.at_ + 1, po := po0 }
def added12 (t : S12) : S12 :=
 if t.ad.st ≠ 9 then t
 else if t.at_ + 1 < p.path.length then { t with at_ := t.at_ + 1, ad := ad0 p }
 else { t with at_ := t.at_ + 1, ph := 6, on := hd16 t.cl.n t.live }
def n12 (t : S12) : S12 :=
 if t.ph = 0 then claimed12 { t with W := (cNext p.K p.th p.q t.c).W, L := (cNext p.K p.th p.q t.c).L, cl := cNext p.K p.th p.q t.c }
 else if t.ph = 1 then pooled12 p { t with W := (pNext (p.av (p.v t.at_)) (p.le (p.v t.at_) p.u) p.n p.lm t.pl).W, L := (pNext (p.av (p.v t.at_)) (p.le (p.v t.at_) p.u) p.n p.lm t.pl).L, po := pNext (p.av (p.v t.at_)) (p.le (p.v t.at_) p.u) p.n p.lm t.pl }
 else if t.ph = 2 then
  if 0 < t.at_ then { t with at_ := t.at_ - 1, W := t.W.set (p.av (p.v (t.at_ - 1))) (wrap64 (rd t.W (p.av (p.v (t.at_ - 1))) + p.n)), L := t.L ++ [⟨2, (p.av (p.v (t.at_ - 1)) : Nat), p.n, wrap64 (rd t.W (p.av (p.v (t.at_ - 1))) + p.n), false⟩] }
  else { t with ph := 6, W := t.W.set (t.tk p) (pNext6 t.cl.set 0), L := t.L ++ [⟨4, (t.tk p : Nat), pNext6 t.cl.set 0, 0, false⟩] }
 else if t.ph = 3 then { t with ph := 4, W := t.W.set (t.tk p + 1) (p.nd * 2097152 + p.n), L := t.L ++ [⟨4, (t.tk p + 1 : Nat), p.nd * 2097152 + p.n, 0, false⟩] }
 else if t.ph = 4 then { t with ph := 5, at_ := 0, live := pNext6 t.cl.set 2, ad := ad0 p, W := t.W.set (t.tk p) (pNext6 t.cl.set 2), L := t.L ++ [⟨4, (t.tk p : Nat), pNext6 t.cl.set 2, 0, false⟩] }
 else if t.ph = 5 then added12 p { t with W := (aNext (p.ct (p.v t.at_)) p.s p.g p.n t.a).W, L := (aNext (p.ct (p.v t.at_)) p.s p.g p.n t.a).L, ad := aNext (p.ct (p.v t.at_)) p.s p.g p.n t.a }
 else t
def stp12 (t : S12) : S12 × Bool := (n12 p t, decide ((n12 p t).ph = 6))
def pk12 (t : S12) (i : Nat) (x : Int) : S12 := { t with W := t.W.set i x }
def start12 (W : List Int) (L : List Acc) : S12 := ⟨W, L, 0, 0, cl0, po0, ad0 p, 0, 0, 0, 0⟩
structure P12OK : Prop where
 s1 : p2 (p.s : Int)
 g1 : 1 ≤ p.g ∧ p.g ≤ 1048576
 l1 : 0 ≤ p.lm ∧ p.lm ≤ 1048576
 k1 : 1 ≤ p.K ∧ p.K ≤ 16
 p1 : 1 ≤ p.P.length ∧ p.P.length ≤ 12
 ll : p.LL.length = p.P.length
 nd1 : p.nd < p.P.length
 n1 : 1 ≤ p.n ∧ p.n ≤ 1048576
 t1 : p.th ≤ 1000
 h1 : 1 ≤ p.path.length ∧ p.path.length ≤ 12
 hv : ∀ v ∈ p.path, v < p.P.length
structure WOK (X : Int) (W : List Int) : Prop where
 ln : W.length = p.q + 2 * p.K
 av : ∀ v, v < p.P.length → 0 ≤ rd W (p.av v) ∧ rd W (p.av v) ≤ X
 le : ∀ v, v < p.P.length → ∀ u, u < p.s → 0 ≤ rd W (p.le v u) ∧ rd W (p.le v u) ≤ p.lm
 lv : ∀ v, v < p.P.length → p2 (rd W (p.ct v + 3)) ∧ rd W (p.ct v + 3) ≤ p.s
structure I12 (X : Int) (t : S12) : Prop where
 w : WOK p X t.W
 ph : t.ph ≤ 6
 at_ : t.at_ ≤ p.path.length
 cn : t.cl.n < p.K
 ci : t.ph = 0 → CInv p.K p.q t.c ∧ t.cl.fin = 0 ∧ t.at_ = 0
 f : 1 ≤ t.ph → t.ph ≤ 5 → t.cl.fin = 1
 pi : t.ph = 1 → t.at_ < p.path.length ∧ PInv (p.av (p.v t.at_)) (p.le (p.v t.at_) p.u) p.n p.lm X t.pl ∧ t.po.next < 7
 ai : t.ph = 5 → t.at_ < p.path.length ∧ AInv (p.ct (p.v t.at_)) p.s p.g p.n t.a ∧ t.ad.st ≠ 9 ∧ t.ad.sp ≤ 2000
 z : t.ph ≠ 6 → t.ph ≠ 2 → t.err = 0 ∧ t.ond = 0
 z2 : t.ph ≠ 6 → t.on = 0
variable {p}
theorem P12OK.s8 (h : P12OK p) : 1 ≤ p.s ∧ p.s ≤ 8 := by have := h.s1; unfold p2 at this; omega
theorem P12OK.u1 (h : P12OK p) : p.u < p.s := Nat.mod_lt _ h.s8.1
theorem P12OK.v1 (h : P12OK p) {i : Nat} (hi : i < p.path.length) : p.v i < p.P.length := by
 have e : p.v i = p.path[i] := by simp [P12.v, hi]
 rw [e]
 exact h.hv _ (List.getElem_mem hi)
theorem node_lt {v n e o : Nat} (hv : v < n) (ho : o < e) : v * e + o < n * e := by
 have h1 : (v + 1) * e ≤ n * e := Nat.mul_le_mul_right _ hv
 rw [Nat.add_mul, Nat.one_mul] at h1
 omega
theorem node_ne {v u e o o' : Nat} (ho : o < e) (ho' : o' < e) (h : v * e + o = u * e + o') : v = u ∧ o = o' := by
 by_cases hvu : v < u
 · have := node_lt hvu ho
   omega
 · by_cases huv : u < v
   · have := node_lt huv ho'
     omega
   · have e1 : v = u := by omega
     subst e1
     exact ⟨rfl, by omega⟩
theorem WOK.more {X Y : Int} {W : List Int} (h : WOK p X W) (hY : X ≤ Y) : WOK p Y W := ⟨h.ln, fun v hv => ⟨(h.av v hv).1, Int.le_trans (h.av v hv).2 hY⟩, h.le, h.lv⟩
theorem WOK.set {X : Int} {W : List Int} (h : WOK p X W) (i : Nat) (x : Int) (h1 : ∀ v, v < p.P.length → i = p.av v → 0 ≤ x ∧ x ≤ X) (h2 : ∀ v, v < p.P.length → ∀ u, u < p.s → i = p.le v u → 0 ≤ x ∧ x ≤ p.lm)
 (h3 : ∀ v, v < p.P.length → i = p.ct v + 3 → p2 x ∧ x ≤ p.s) : WOK p X (W.set i x) := by
 refine ⟨by simpa using h.ln, fun v hv => ?_, fun v hv u hu => ?_, fun v hv => ?_⟩
 · rw [rd_set]
   split
   · rename_i e; exact h1 v hv e.1.symm
   · exact h.av v hv
 · rw [rd_set]
   split
   · rename_i e; exact h2 v hv u hu e.1.symm
   · exact h.le v hv u hu
 · rw [rd_set]
   split
   · rename_i e; exact h3 v hv e.1.symm
   · exact h.lv v hv
theorem P12OK.av_lt (h : P12OK p) {v : Nat} (hv : v < p.P.length) : p.av v < p.q := node_lt hv (by omega)
theorem P12OK.le_lt (h : P12OK p) {v u : Nat} (hv : v < p.P.length) (hu : u < p.s) : p.le v u < p.q := by
 have := node_lt (o := 2 + u) hv (show 2 + u < 6 + 2 * p.s by omega)
 unfold P12.le P12.q; omega
theorem P12OK.ct_lt (h : P12OK p) {v : Nat} (hv : v < p.P.length) : p.ct v + 4 + p.s ≤ p.q := by
 have := node_lt (o := 5 + 2 * p.s) hv (show 5 + 2 * p.s < 6 + 2 * p.s by omega)
 unfold P12.ct P12.q; omega
theorem WOK.ticket {X : Int} {W : List Int} (hp : P12OK p) (h : WOK p X W) (i : Nat) (x : Int) (hi : p.q ≤ i) : WOK p X (W.set i x) :=
 h.set i x (fun v hv e => by have := hp.av_lt hv; omega) (fun v hv u hu e => by have := hp.le_lt hv hu; omega) (fun v hv e => by have := hp.ct_lt hv; have := hp.s8; omega)
theorem WOK.ticketc {X : Int} {W : List Int} (hp : P12OK p) (h : WOK p X W) (i : Nat) (a x : Int) (hi : p.q ≤ i) : WOK p X (casW W i a x) := by
 unfold casW
 split
 · exact h.ticket hp i x hi
 · exact h
theorem av_le {v v' u : Nat} (hu : u < p.s) : p.av v ≠ p.le v' u := fun h => by
 have := node_ne (e := 6 + 2 * p.s) (o := 1) (o' := 2 + u) (by omega) (by omega) (show v * (6 + 2 * p.s) + 1 = v' * (6 + 2 * p.s) + (2 + u) by unfold P12.av P12.le at h; omega)
 omega
theorem av_ct {v v' : Nat} (hs : 1 ≤ p.s) : p.av v ≠ p.ct v' + 3 := fun h => by
 have := node_ne (e := 6 + 2 * p.s) (o := 1) (o' := 5 + p.s) (by omega) (by omega) (show v * (6 + 2 * p.s) + 1 = v' * (6 + 2 * p.s) + (5 + p.s) by unfold P12.av P12.ct at h; omega)
 omega
theorem le_ct {v v' u : Nat} (hu : u < p.s) : p.le v u ≠ p.ct v' + 3 := fun h => by
 have := node_ne (e := 6 + 2 * p.s) (o := 2 + u) (o' := 5 + p.s) (by omega) (by omega) (show v * (6 + 2 * p.s) + (2 + u) = v' * (6 + 2 * p.s) + (5 + p.s) by unfold P12.le P12.ct at h; omega)
 omega
theorem WOK.setav {X : Int} {W : List Int} (hp : P12OK p) (h : WOK p X W) (v : Nat) (x : Int) (hx : 0 ≤ x ∧ x ≤ X) : WOK p X (W.set (p.av v) x) :=
 h.set _ x (fun _ _ _ => hx) (fun v' hv' u hu e => absurd e (av_le hu)) (fun v' hv' e => absurd e (av_ct hp.s8.1))
theorem WOK.setle {X : Int} {W : List Int} (h : WOK p X W) (v u : Nat) (x : Int) (hu : u < p.s) (hx : 0 ≤ x ∧ x ≤ p.lm) : WOK p X (W.set (p.le v u) x) :=
 h.set _ x (fun v' hv' e => absurd e.symm (av_le hu)) (fun _ _ _ _ _ => hx) (fun v' hv' e => absurd e (le_ct hu))
end
end Go.Proofs.YthaceckccobgeaaGreat

namespace Go.Proofs.YthaceckccobgeaaGreat
open Go.RowKit
set_option linter.unusedVariables false
set_option linter.unusedSimpArgs false
set_option maxHeartbeats 400000 in
theorem plan_each (t s g l r k : Int) (PA : Option Addr) (pn pc : Nat) (LA : Option Addr) (ln lc : Nat) (w : World) (hs0 : 1 ≤ s) (hs1 : s ≤ 8) :
 Calls Tryz.prog 115 #[.agg #[i64 t, i64 s, i64 g, i64 l, i64 r, i64 k, .slice PA pn pc, .slice LA ln lc]] w (Ret (i64 (6 + 2 * s)) w) := by
 go_enter Tryz.func115, Tryz.ntmps115
 go_wp2_with fail
 go_ret
 exact ⟨rfl, by repeat (with_reducible first | exact Keep.refl _ _ | apply Keep.alloc | apply Keep.drewN | apply Keep.drew)⟩
set_option maxHeartbeats 400000 in
theorem plan_node (t s g l r k : Int) (PA : Option Addr) (pn pc : Nat) (LA : Option Addr) (ln lc : Nat) (v : Int) (w : World) (hs0 : 1 ≤ s) (hs1 : s ≤ 8) (h0 : 0 ≤ v) (h1 : v ≤ 1000) :
 Calls Tryz.prog 100 #[.agg #[i64 t, i64 s, i64 g, i64 l, i64 r, i64 k, .slice PA pn pc, .slice LA ln lc], i64 v] w (Ret (i64 (v * (6 + 2 * s))) w) := by
 have hm := mul_bd 1000 22 h0 h1 (show 0 ≤ 6 + 2 * s by omega) (by omega)
 go_enter Tryz.func100, Tryz.ntmps100
 go_wp2_with fail
 refine (plan_each t s g l r k PA pn pc LA ln lc _ hs0 hs1).mono ?_
 rintro e w1 ⟨rfl, hk1⟩
 have HK1 : Hid (Keep0 w w1) := hid (Keep0.step (by repeat (with_reducible first | exact Keep.refl _ _ | apply Keep.alloc | apply Keep.drewN | apply Keep.drew)) hk1)
 clear hk1
 go_wp2_with fail
 go_ret
 exact ⟨rfl, by repeat (with_reducible first | exact Keep.refl _ _ | exact HK1.out | apply Keep.alloc | apply Keep.drewN | apply Keep.drew)⟩
set_option maxHeartbeats 400000 in
theorem plan_Limit (t s g l r k : Int) (PA : Option Addr) (pn pc : Nat) (LA : Option Addr) (ln lc : Nat) (v : Int) (w : World) (hs0 : 1 ≤ s) (hs1 : s ≤ 8) (h0 : 0 ≤ v) (h1 : v ≤ 1000) :
 Calls Tryz.prog 64 #[.agg #[i64 t, i64 s, i64 g, i64 l, i64 r, i64 k, .slice PA pn pc, .slice LA ln lc], i64 v] w (Ret (i64 (v * (6 + 2 * s))) w) := by
 go_enter Tryz.func64, Tryz.ntmps64
 go_wp2_with fail
 refine (plan_node t s g l r k PA pn pc LA ln lc v _ hs0 hs1 h0 h1).mono ?_
 rintro e w1 ⟨rfl, hk1⟩
 have HK1 : Hid (Keep0 w w1) := hid (Keep0.step (by repeat (with_reducible first | exact Keep.refl _ _ | apply Keep.alloc | apply Keep.drewN | apply Keep.drew)) hk1)
 clear hk1
 go_wp2_with fail
 go_ret
 exact ⟨rfl, by repeat (with_reducible first | exact Keep.refl _ _ | exact HK1.out | apply Keep.alloc | apply Keep.drewN | apply Keep.drew)⟩
set_option maxHeartbeats 400000 in
theorem plan_Avail (t s g l r k : Int) (PA : Option Addr) (pn pc : Nat) (LA : Option Addr) (ln lc : Nat) (v : Int) (w : World) (hs0 : 1 ≤ s) (hs1 : s ≤ 8) (h0 : 0 ≤ v) (h1 : v ≤ 1000) :
 Calls Tryz.prog 63 #[.agg #[i64 t, i64 s, i64 g, i64 l, i64 r, i64 k, .slice PA pn pc, .slice LA ln lc], i64 v] w (Ret (i64 (v * (6 + 2 * s) + 1)) w) := by
 have hm := mul_bd 1000 22 h0 h1 (show 0 ≤ 6 + 2 * s by omega) (by omega)
 go_enter Tryz.func63, Tryz.ntmps63
 go_wp2_with fail
 refine (plan_Limit t s g l r k PA pn pc LA ln lc v _ hs0 hs1 h0 h1).mono ?_
 rintro e w1 ⟨rfl, hk1⟩
 have HK1 : Hid (Keep0 w w1) := hid (Keep0.step (by repeat (with_reducible first | exact Keep.refl _ _ | apply Keep.alloc | apply Keep.drewN | apply Keep.drew)) hk1)
 clear hk1
 go_wp2_with fail
 go_ret
 exact ⟨rfl, by repeat (with_reducible first | exact Keep.refl _ _ | exact HK1.out | apply Keep.alloc | apply Keep.drewN | apply Keep.drew)⟩
set_option maxHeartbeats 400000 in
theorem plan_Lease (t s g l r k : Int) (PA : Option Addr) (pn pc : Nat) (LA : Option Addr) (ln lc : Nat) (v u : Int) (w : World) (hs0 : 1 ≤ s) (hs1 : s ≤ 8) (h0 : 0 ≤ v) (h1 : v ≤ 1000) (hu0 : 0 ≤ u) (hu1 : u ≤ 1000) :
 Calls Tryz.prog 82 #[.agg #[i64 t, i64 s, i64 g, i64 l, i64 r, i64 k, .slice PA pn pc, .slice LA ln lc], i64 v, i64 u] w (Ret (i64 (v * (6 + 2 * s) + 2 + u)) w) := by
 have hm := mul_bd 1000 22 h0 h1 (show 0 ≤ 6 + 2 * s by omega) (by omega)
 go_enter Tryz.func82, Tryz.ntmps82
 go_wp2_with fail
 refine (plan_Limit t s g l r k PA pn pc LA ln lc v _ hs0 hs1 h0 h1).mono ?_
 rintro e w1 ⟨rfl, hk1⟩
 have HK1 : Hid (Keep0 w w1) := hid (Keep0.step (by repeat (with_reducible first | exact Keep.refl _ _ | apply Keep.alloc | apply Keep.drewN | apply Keep.drew)) hk1)
 clear hk1
 go_wp2_with fail
 go_ret
 exact ⟨rfl, by repeat (with_reducible first | exact Keep.refl _ _ | exact HK1.out | apply Keep.alloc | apply Keep.drewN | apply Keep.drew)⟩
set_option maxHeartbeats 400000 in
theorem plan_Counter (t s g l r k : Int) (PA : Option Addr) (pn pc : Nat) (LA : Option Addr) (ln lc : Nat) (v : Int) (w : World) (hs0 : 1 ≤ s) (hs1 : s ≤ 8) (h0 : 0 ≤ v) (h1 : v ≤ 1000) :
 Calls Tryz.prog 36 #[.agg #[i64 t, i64 s, i64 g, i64 l, i64 r, i64 k, .slice PA pn pc, .slice LA ln lc], i64 v] w (Ret (i64 (v * (6 + 2 * s) + 2 + s)) w) := by
 go_enter Tryz.func36, Tryz.ntmps36
 go_wp2_with fail
 refine (plan_Lease t s g l r k PA pn pc LA ln lc v s _ hs0 hs1 h0 h1 (by omega) (by omega)).mono ?_
 rintro e w1 ⟨rfl, hk1⟩
 have HK1 : Hid (Keep0 w w1) := hid (Keep0.step (by repeat (with_reducible first | exact Keep.refl _ _ | apply Keep.alloc | apply Keep.drewN | apply Keep.drew)) hk1)
 clear hk1
 go_wp2_with fail
 go_ret
 exact ⟨rfl, by repeat (with_reducible first | exact Keep.refl _ _ | exact HK1.out | apply Keep.alloc | apply Keep.drewN | apply Keep.drew)⟩
set_option maxHeartbeats 400000 in
theorem plan_Ticket (t s g l r k : Int) (PA : Option Addr) (pn pc : Nat) (LA : Option Addr) (ln lc : Nat) (v : Int) (w : World) (hs0 : 1 ≤ s) (hs1 : s ≤ 8) (h0 : 0 ≤ v) (h1 : v ≤ 1000) (hp : pn ≤ 1000) :
 Calls Tryz.prog 67 #[.agg #[i64 t, i64 s, i64 g, i64 l, i64 r, i64 k, .slice PA pn pc, .slice LA ln lc], i64 v] w (Ret (i64 (pn * (6 + 2 * s) + 2 * v)) w) := by
 have hm := mul_bd 1000 22 (show (0 : Int) ≤ pn by omega) (by omega) (show 0 ≤ 6 + 2 * s by omega) (by omega)
 go_enter Tryz.func67, Tryz.ntmps67
 go_wp2_with fail
 refine (plan_node t s g l r k PA pn pc LA ln lc pn _ hs0 hs1 (by omega) (by omega)).mono ?_
 rintro e w1 ⟨rfl, hk1⟩
 have HK1 : Hid (Keep0 w w1) := hid (Keep0.step (by repeat (with_reducible first | exact Keep.refl _ _ | apply Keep.alloc | apply Keep.drewN | apply Keep.drew)) hk1)
 clear hk1
 go_wp2_with fail
 go_ret
 exact ⟨rfl, by repeat (with_reducible first | exact Keep.refl _ _ | exact HK1.out | apply Keep.alloc | apply Keep.drewN | apply Keep.drew)⟩
set_option maxHeartbeats 400000 in
theorem plan_Size (t s g l r k : Int) (PA : Option Addr) (pn pc : Nat) (LA : Option Addr) (ln lc : Nat) (w : World) (hs0 : 1 ≤ s) (hs1 : s ≤ 8) (hk0 : 0 ≤ k) (hk1 : k ≤ 1000) (hp : pn ≤ 1000) :
 Calls Tryz.prog 40 #[.agg #[i64 t, i64 s, i64 g, i64 l, i64 r, i64 k, .slice PA pn pc, .slice LA ln lc]] w (Ret (i64 (pn * (6 + 2 * s) + 2 * k)) w) := by
 go_enter Tryz.func40, Tryz.ntmps40
 go_wp2_with fail
 refine (plan_Ticket t s g l r k PA pn pc LA ln lc k _ hs0 hs1 hk0 hk1 hp).mono ?_
 rintro e w1 ⟨rfl, hk1⟩
 have HK1 : Hid (Keep0 w w1) := hid (Keep0.step (by repeat (with_reducible first | exact Keep.refl _ _ | apply Keep.alloc | apply Keep.drewN | apply Keep.drew)) hk1)
 clear hk1
 go_wp2_with fail
 go_ret
 exact ⟨rfl, by repeat (with_reducible first | exact Keep.refl _ _ | exact HK1.out | apply Keep.alloc | apply Keep.drewN | apply Keep.drew)⟩
end Go.Proofs.YthaceckccobgeaaGreat

namespace Go.Proofs.YthaceckccobgeaaGreat
open Go.RowKit
set_option linter.unusedVariables false
set_option linter.unusedSimpArgs false
def IntsAt (w : World) (A : Option Addr) (l : List Int) : Prop := (l = []) ∨ ∃ b o, A = some ⟨b, o, none⟩ ∧ ∀ i, i < l.length → w.cell? ⟨b, o + i, none⟩ = some (i64 (rd l i))
def inB (n lo hi : Int) : Bool := decide (lo ≤ n ∧ n ≤ hi)
theorem inB_iff {n lo hi : Int} : inB n lo hi = true ↔ lo ≤ n ∧ n ≤ hi := by simp [inB]
theorem in_any (n lo hi : Int) (w : World) : Calls Tryz.prog 66 #[i64 n, i64 lo, i64 hi] w fun e w' => e = .returned (.bool (inB n lo hi)) ∧ w = w' := by
 by_cases h1 : lo ≤ n
 · by_cases h2 : n ≤ hi
   · have hb : inB n lo hi = true := inB_iff.2 ⟨h1, h2⟩
     rw [hb]
     clear hb
     go_enter Tryz.func66, Tryz.ntmps66
     go_wp2
     go_ret
     exact ⟨rfl, rfl⟩
   · have hb : inB n lo hi = false := by cases h : inB n lo hi; rfl; exact absurd (inB_iff.1 h).2 h2
     rw [hb]
     clear hb
     go_enter Tryz.func66, Tryz.ntmps66
     go_wp2
     go_ret
     exact ⟨rfl, rfl⟩
 · have hb : inB n lo hi = false := by cases h : inB n lo hi; rfl; exact absurd (inB_iff.1 h).1 h1
   rw [hb]
   clear hb
   go_enter Tryz.func66, Tryz.ntmps66
   go_wp2
   go_ret
   exact ⟨rfl, rfl⟩
def restB (P L : List Int) : Nat → Nat → Bool
 | 0, _ => true
 | d + 1, i => (inB (rd L i) 0 1099511627776 && (if i = 0 then rd P i == -1 else inB (rd P i) 0 (i - 1))) && restB P L d (i + 1)
def stripesB (s : Int) : Bool := s == 1 || s == 2 || s == 4 || s == 8
def headB (t s g l r k : Int) (pn ln : Nat) : Bool :=
 inB t 1 8 && stripesB s && inB g 1 1048576 && inB l 0 1048576 && inB r 1 8 && inB k 1 16 && inB pn 1 12 && !((ln : Int) != pn)
def rightB (t s g l r k : Int) (P L : List Int) : Bool := headB t s g l r k P.length L.length && restB P L P.length 0
theorem stripes_cases {s : Int} (h : stripesB s = true) : s = 1 ∨ s = 2 ∨ s = 4 ∨ s = 8 := by
 simp [stripesB] at h; omega
theorem IntsAt.cell {w : World} {A : Option Addr} {l : List Int} (h : IntsAt w A l) (hl : 0 < l.length) : ∃ b o, A = some ⟨b, o, none⟩ ∧ (∀ i, i < l.length → w.cell? ⟨b, o + i, none⟩ = some (i64 (rd l i))) := by
 rcases h with rfl | h
 · simp at hl
 · exact h
theorem IntsAt.keep {w w' : World} {A : Option Addr} {l : List Int} (h : IntsAt w A l) (hk : Keep0 w w') : IntsAt w' A l := by
 rcases h with h | ⟨b, o, e1, h⟩
 · exact Or.inl h
 · refine Or.inr ⟨b, o, e1, fun i hi => ?_⟩
   rw [cell_old hk (World.block_lt_of_cell? _ _ (h i hi)) (fun x => x)]
   exact h i hi
theorem restB_stop (P L : List Int) (d i : Nat) (h : (inB (rd L i) 0 1099511627776 && (if i = 0 then rd P i == -1 else inB (rd P i) 0 (i - 1))) = false) : restB P L (d + 1) i = false := by simp only [restB, h, Bool.false_and]
theorem restB_go (P L : List Int) (d i : Nat) (h : (inB (rd L i) 0 1099511627776 && (if i = 0 then rd P i == -1 else inB (rd P i) 0 (i - 1))) = true) : restB P L (d + 1) i = restB P L d (i + 1) := by simp only [restB, h, Bool.true_and]
set_option maxHeartbeats 2000000 in
set_option maxRecDepth 100000 in
theorem ref_Right_no (t s g l r k : Int) (PA : Option Addr) (P : List Int) (pc : Nat) (LA : Option Addr) (L : List Int) (lc : Nat) (w : World) (hpl : P.length ≤ 1000) (hll : L.length ≤ 1000) (hh : headB t s g l r k P.length L.length = false) :
 Calls Tryz.prog 18 #[.agg #[i64 t, i64 s, i64 g, i64 l, i64 r, i64 k, .slice PA P.length pc, .slice LA L.length lc]] w (Ret (.bool (rightB t s g l r k P L)) w) := by
 have hr : rightB t s g l r k P L = false := by rw [rightB, hh]; rfl
 rw [hr]
 have HH := hid hh
 clear hh hr
 go_enter Tryz.func18, Tryz.ntmps18
 go_wp2_with (go_at_call 66; refine (in_any _ _ _ _).mono ?_; rintro e w' ⟨rfl, rfl⟩)
 all_goals first
  | (go_ret; exact ⟨rfl, (Keep.refl _ _).alloc _⟩)
  | (exfalso; have hf := HH.out; simp_all [headB, stripesB])
set_option maxHeartbeats 2000000 in
set_option maxRecDepth 100000 in
theorem ref_Right_yes (t s g l r k : Int) (PA : Option Addr) (P : List Int) (pc : Nat) (LA : Option Addr) (L : List Int) (lc : Nat) (w : World) (hP : IntsAt w PA P) (hL : IntsAt w LA L) (hpl : P.length ≤ 1000) (hll : L.length ≤ 1000) (hh : headB t s g l r k P.length L.length = true) :
 Calls Tryz.prog 18 #[.agg #[i64 t, i64 s, i64 g, i64 l, i64 r, i64 k, .slice PA P.length pc, .slice LA L.length lc]] w (Ret (.bool (rightB t s g l r k P L)) w) := by
 have hr : rightB t s g l r k P L = restB P L P.length 0 := by rw [rightB, hh]; rfl
 rw [hr]
 clear hr
 simp only [headB, Bool.and_eq_true] at hh
 obtain ⟨⟨⟨⟨⟨⟨⟨i1, i2⟩, i3⟩, i4⟩, i5⟩, i6⟩, i7⟩, i8⟩ := hh
 have hlen : L.length = P.length := by simp at i8; omega
 have hp1 := (inB_iff.1 i7).1
 have i8' : ((L.length : Int) != P.length) = false := by simpa using i8
 clear i8
 obtain ⟨pb, po, rfl, hpc⟩ := hP.cell (by omega)
 obtain ⟨lb, lo, rfl, hlc⟩ := hL.cell (by omega)
 have hpz := World.block_lt_of_cell? _ _ (hpc 0 (by omega))
 have hlz := World.block_lt_of_cell? _ _ (hlc 0 (by omega))
 simp only at hpz hlz
 have HLEN := hid hlen
 have HPC := hid hpc
 have HLC := hid hlc
 have hm : L.length ≤ P.length := by omega
 have hm' : P.length ≤ L.length := by omega
 clear hlen hpc hlc hP hL
 have hst := stripes_cases i2
 clear i2
 rcases hst with rfl | rfl | rfl | rfl
 all_goals
  go_enter Tryz.func18, Tryz.ntmps18
  go_wp2_with (go_at_call 66; refine (in_any _ _ _ _).mono ?_; rintro e w' ⟨rfl, rfl⟩)
  go_loop [3] (fun v => ∃ i : Nat, i ≤ P.length ∧ v = .int .i64 i ∧ restB P L (P.length - i) i = restB P L P.length 0) (fun v => P.length - (intOf v).toNat)
  case atStart => exact ⟨0, Nat.zero_le _, rfl, rfl⟩
  case round =>
   obtain ⟨i, hi, rfl, hre⟩ := hrel
   have HRE := hid hre
   clear hre
   by_cases hlt : i < P.length
   · have c1 := HPC.out i hlt
     have c2 := HLC.out i (by omega)
     have hd : P.length - i = (P.length - (i + 1)) + 1 := by omega
     have HD := hid hd
     clear hd
     cases b1 : inB (rd L i) 0 1099511627776
     · have hf : restB P L P.length 0 = false := by rw [← HRE.out, HD.out]; exact restB_stop _ _ _ _ (by rw [b1]; rfl)
       have HF := hid hf
       clear hf
       go_wp2_with (go_at_call 66; refine (in_any _ _ _ _).mono ?_; rintro e w' ⟨rfl, rfl⟩)
       rw [HF.out]
       go_ret
       exact ⟨rfl, (Keep.refl _ _).alloc _⟩
     · by_cases h0 : i = 0
       · subst h0
         simp only [Nat.add_zero] at c1 c2
         cases b2 : (rd P 0 != -1)
         · have hn : restB P L (P.length - (0 + 1)) (0 + 1) = restB P L P.length 0 := by rw [← HRE.out, HD.out]; exact (restB_go _ _ _ _ (by rw [b1, if_pos rfl]; simpa using b2)).symm
           have HN := hid hn
           clear hn
           go_wp2_with (go_at_call 66; refine (in_any _ _ _ _).mono ?_; rintro e w' ⟨rfl, rfl⟩)
           go_round
           case rel => exact ⟨1, by omega, by go_num, HN.out⟩
           case measure => simp [intOf]; omega
         · have hf : restB P L P.length 0 = false := by rw [← HRE.out, HD.out]; exact restB_stop _ _ _ _ (by rw [b1, if_pos rfl]; simpa using b2)
           have HF := hid hf
           clear hf
           go_wp2_with (go_at_call 66; refine (in_any _ _ _ _).mono ?_; rintro e w' ⟨rfl, rfl⟩)
           rw [HF.out]
           go_ret
           exact ⟨rfl, (Keep.refl _ _).alloc _⟩
       · have g1 : ((i : Int) == 0) = false := by simpa using h0
         have g2 : (0 : Int) < i := by omega
         cases b2 : inB (rd P i) 0 ((i : Int) - 1)
         · have hf : restB P L P.length 0 = false := by rw [← HRE.out, HD.out]; exact restB_stop _ _ _ _ (by rw [b1, if_neg h0, b2]; rfl)
           have HF := hid hf
           clear hf
           go_wp2_with (go_at_call 66; refine (in_any _ _ _ _).mono ?_; rintro e w' ⟨rfl, rfl⟩)
           rw [HF.out]
           go_ret
           exact ⟨rfl, (Keep.refl _ _).alloc _⟩
         · have hn : restB P L (P.length - (i + 1)) (i + 1) = restB P L P.length 0 := by rw [← HRE.out, HD.out]; exact (restB_go _ _ _ _ (by rw [b1, if_neg h0, b2]; rfl)).symm
           have HN := hid hn
           clear hn
           go_wp2_with (go_at_call 66; refine (in_any _ _ _ _).mono ?_; rintro e w' ⟨rfl, rfl⟩)
           go_round
           case rel => exact ⟨i + 1, by omega, by go_num, HN.out⟩
           case measure => simp [intOf]; omega
   · have hre2 : restB P L P.length 0 = true := by rw [← HRE.out, show P.length - i = 0 from by omega]; rfl
     have HF := hid hre2
     clear hre2
     go_wp2_with (go_at_call 66; refine (in_any _ _ _ _).mono ?_; rintro e w' ⟨rfl, rfl⟩)
     rw [HF.out]
     go_ret
     exact ⟨rfl, (Keep.refl _ _).alloc _⟩
end Go.Proofs.YthaceckccobgeaaGreat

namespace Go.Proofs.YthaceckccobgeaaGreat
open Go.RowKit
set_option linter.unusedVariables false
set_option linter.unusedSimpArgs false
structure RefAt (B : Nat) (w : World) (m : Nat) (A : Option Addr) (c : Nat) (lv : Value) (W : List Int) (L : List Acc) : Prop where
 base : B ≤ w.heap.size
 bm : B ≤ m
 mem : Blk w m 42 [.slice A W.length c, lv]
 words : w.ownsRow B 3 1 (.slice A W.length c) W.length (ints W)
 log : w.ownsRow B 112 5 lv L.length (accs L)
def RF (m : Nat) (A : Option Addr) (lv : Value) (k : Nat) : Prop := k = m ∨ (Value.slice A 0 0).ownBlock = some k ∨ lv.ownBlock = some k
theorem own_any (A : Option Addr) (n c n' c' : Nat) : (Value.slice A n c).ownBlock = (Value.slice A n' c').ownBlock := by cases A <;> rfl
theorem RefAt.keep {B : Nat} {S : Nat → Prop} {w w' : World} {m : Nat} {A : Option Addr} {c : Nat} {lv : Value} {W : List Int} {L : List Acc} (h : RefAt B w m A c lv W L) (hk : Keep S w w') (hS : ∀ k, RF m A lv k → ¬ S k) : RefAt B w' m A c lv W L :=
 ⟨Nat.le_trans h.base hk.size, h.bm, hk.blk h.mem (hS _ (Or.inl rfl)), ownsRow_keep h.words hk (fun k hkk => hS _ (Or.inr (Or.inl ((own_any _ _ _ _ _).trans hkk)))), ownsRow_keep h.log hk (fun k hkk => hS _ (Or.inr (Or.inr hkk)))⟩
theorem own_full {w : World} {B g : Nat} {W : List Int} (h : Blk w g 3 (ints W)) (hb : B ≤ g) (hl : W.length ≤ 1000000000) : w.ownsRow B 3 1 (.slice (some ⟨g, 0, none⟩) W.length W.length) W.length (ints W) :=
 ⟨by simp [ints], .inr ⟨g, W.length, (ints W).toArray, rfl, hb, h, Nat.le_refl _, by unfold maxLen; omega, by simp [ints], by simp [ints, List.take_of_length_le]⟩⟩
theorem own_base {w : World} {B B' : Nat} {e : TypeId} {size : Nat} {v : Value} {n : Nat} {xs : List Value} (h : w.ownsRow B e size v n xs) (hb : B' ≤ B) : w.ownsRow B' e size v n xs := by
 obtain ⟨h1, h2⟩ := h
 refine ⟨h1, ?_⟩
 rcases h2 with hn | ⟨g, cap, cur, e1, hg, rest⟩
 · exact .inl hn
 · exact .inr ⟨g, cap, cur, e1, Nat.le_trans hb hg, rest⟩
theorem ints_own {w : World} {B : Nat} {A : Option Addr} {n c : Nat} {l : List Int} (h : w.ownsRow B 3 1 (.slice A n c) n (ints l)) (hn : 0 < n) (hl : l.length = n) : ∃ g, A = some ⟨g, 0, none⟩ ∧ Ints w g l ∧ B ≤ g := by
 have hA : A ≠ none := fun e => by
  rcases h.2 with ⟨e', h0⟩ | ⟨g, cap, cur, e', _, _, _⟩
  · omega
  · cases e'; cases e
 subst hl
 exact ints_of_row h hA
theorem ints_take (V : List Int) (j : Nat) (h : j < V.length) : ints (V.take j) ++ [i64 (rd V j)] = ints (V.take (j + 1)) := by
 have e : V[j]? = some (rd V j) := by simp [rd, h]
 rw [List.take_add_one, e]
 simp [ints]
set_option maxHeartbeats 400000 in
theorem ref_New (B : Nat) (n : Int) (w : World) (hB : B ≤ w.heap.size) (h0 : 0 ≤ n) (h1 : n ≤ 10000) :
 Calls Tryz.prog 83 #[.int .i64 n] w fun e w' => ∃ m A c, e = .returned (ptr m) ∧ RefAt B w' m A c (.slice none 0 0) (List.replicate n.toNat 0) [] ∧ Keep0 w w' ∧ (∀ k, RF m A (.slice none 0 0) k → w.heap.size ≤ k) := by
 obtain ⟨n, rfl⟩ := Int.eq_ofNat_of_zero_le h0
 obtain ⟨i0, hi, hz0, hz1, hz2⟩ := info_parts info_int
 have hmk := fun w => run_make (P := Tryz.prog) w 22 3 i0 (.int .i64 0) Tryz.underlying22 hi hz0 .i64 .i64 n n (by omega) (by omega) (by rw [hz2]; omega) (by omega)
 simp only [hz1, Nat.mul_one, made_ints, Int.toNat_natCast] at hmk
 clear hi hz0 hz1 hz2
 go_enter Tryz.func83, Tryz.ntmps83
 go_wp2
 go_ret
 have hb : Blk (w.alloc (.cells (ints (List.replicate n 0)).toArray 3)) w.heap.size 3 (ints (List.replicate n 0)) := Blk.made rfl rfl
 have ho := own_full (B := B) hb hB (by simp; omega)
 refine ⟨_, some ⟨w.heap.size, 0, none⟩, n, rfl, ⟨?_, ?_, Blk.made (by simp) (by simp), ?_, World.ownsRow_nil _ _ _ _⟩, ((Keep.refl _ _).alloc _).alloc _, ?_⟩
 · first | omega | (simp; omega)
 · first | omega | (simp; omega)
 · simpa using ho.alloc _
 · intro k hk
   rcases hk with rfl | hk | hk
   · first | omega | simp
   · simp [Value.ownBlock] at hk; omega
   · simp [Value.ownBlock] at hk
set_option maxHeartbeats 2000000 in
theorem ref_Poke (B : Nat) (w : World) (m : Nat) (A : Option Addr) (c : Nat) (lv : Value) (W : List Int) (L : List Acc) (i x : Int) (hm : RefAt B w m A c lv W L) (h0 : 0 ≤ i) (hi : i < W.length) (hW : W.length ≤ 1000000) :
 Calls Tryz.prog 76 #[ptr m, i64 i, i64 x] w fun e w' => e = .returned (.tuple #[]) ∧ ∃ A' c', RefAt B w' m A' c' lv (W.set i.toNat x) L ∧ Keep (fun k => k = m) w w' ∧ (∀ k, (Value.slice A' 0 0).ownBlock = some k → w.heap.size ≤ k) := by
 obtain ⟨i, rfl⟩ := Int.eq_ofNat_of_zero_le h0
 rw [Int.toNat_natCast]
 have hi' : i < W.length := by omega
 obtain ⟨i0, hti, hz0, hz1, hz2⟩ := info_parts info_int
 have HI := hid hti
 clear hti
 obtain ⟨g, rfl, hg, hBg⟩ := ints_own hm.words (by omega) rfl
 have HG := hid hg
 have HB := hid hm.mem
 have HM := hid hm
 clear hm hg hBg
 go_enter Tryz.func76, Tryz.ntmps76
 go_wp2_with fail
 go_loopw [6, 7] (fun v6 v7 wr => ∃ j : Nat, j ≤ W.length ∧ v7 = .int .i64 j ∧ ∃ A1 c1, v6 = .slice A1 j c1 ∧ wr.ownsRow w.heap.size 3 1 (.slice A1 j c1) j (ints ((W.set i x).take j)) ∧ Keep0 w wr) (fun _ v _ => W.length - (intOf v).toNat)
 case atStart => exact ⟨0, Nat.zero_le _, rfl, none, 0, rfl, by simpa [ints] using World.ownsRow_nil _ _ _ _, Keep.refl _ _⟩
 case round =>
  obtain ⟨j, hj, rfl, A1, c1, rfl, ho, hk⟩ := hrel
  have HO := hid ho
  have HK := hid hk
  have qm := (hk.blk HB.out (fun h => h)).k2
  have HGR := hid (hk.ints HG.out (fun h => h))
  clear ho hk
  by_cases hlt : j < W.length
  · have q1 := HGR.out.cell j hlt
    have q2 := HGR.out.lt
    by_cases hji : j = i
    · subst hji
      have hxt : ints ((W.set j x).take j) ++ [i64 x] = ints ((W.set j x).take (j + 1)) := by
       rw [← ints_take _ _ (by simpa using hlt)]; simp [rd, hlt]
      have HXT := hid hxt
      clear hxt
      go_wp2_with (first | (at_builtin; refine wpl_append_own ?a1 (.tmp 20) (.tmp 22) 22 ?a2 (w.heap.size) 3 i0 ?z 1 8 ?a3 ?a4 ?a5 ?a6 ?a7 ?a8 ?a9 (.slice A1 j c1) (j) (ints ((W.set j x).take j)) ?a10 ?hown (⟨wr.heap.size, 0, none⟩) (1) (1) ([i64 (x)]) ?a11 ?a12 ?hnews ?hone ?h63 ?hby ?hbase ?_; (case a1 => rfl); (case a2 => rfl); (case a3 => exact Tryz.underlying22); (case a4 => exact HI.out); (case a5 => exact hz0); (case a6 => exact hz1); (case a7 => exact hz2); (case a8 => rfl); (case a9 => decide); (case a10 => rfl); (case a11 => rfl); (case a12 => rfl); (case hown => exact HO.out.alloc _); (case h63 => unfold maxLen; omega); (case hby => omega); (case hnews => exact news_at (Blk.made rfl (by simp))); (case hone => simp [Value.oneCell']); (case hbase => have := HK.out.size; simp; omega); intro A4 c4 w4 hown4 hg4 hsl4; have h04 := hown4; rw [HXT.out] at h04; have HO4 := hid h04; have HK4 := hid (Keep.grown (HK.out.alloc _) hg4 (fun k hk e => by have := (HO.out.lt k e).1; omega)); clear hown4 hg4 hsl4 h04))
      go_roundw
      case rel => exact ⟨j + 1, by omega, by go_num, A4, c4, rfl, HO4.out, HK4.out⟩
      case measure => simp [intOf]; omega
    · have hxt : ints ((W.set i x).take j) ++ [i64 (rd W j)] = ints ((W.set i x).take (j + 1)) := by
       rw [← ints_take _ _ (by simpa using hlt)]; simp [rd, hlt, List.getElem?_set, Ne.symm hji]
      have HXT := hid hxt
      clear hxt
      have hjb : ((j : Int) == (i : Int)) = false := by simp; omega
      go_wp2_with (first | (at_builtin; refine wpl_append_own ?a1 (.tmp 24) (.tmp 32) 22 ?a2 (w.heap.size) 3 i0 ?z2 1 8 ?a3 ?a4 ?a5 ?a6 ?a7 ?a8 ?a9 (.slice A1 j c1) (j) (ints ((W.set i x).take j)) ?a10 ?hown (⟨wr.heap.size, 0, none⟩) (1) (1) ([i64 (rd W j)]) ?a11 ?a12 ?hnews ?hone ?h63 ?hby ?hbase ?_; (case a1 => rfl); (case a2 => rfl); (case a3 => exact Tryz.underlying22); (case a4 => exact HI.out); (case a5 => exact hz0); (case a6 => exact hz1); (case a7 => exact hz2); (case a8 => rfl); (case a9 => decide); (case a10 => rfl); (case a11 => rfl); (case a12 => rfl); (case hown => exact HO.out.alloc _); (case h63 => unfold maxLen; omega); (case hby => omega); (case hnews => exact news_at (Blk.made rfl (by simp))); (case hone => simp [Value.oneCell']); (case hbase => have := HK.out.size; simp; omega); intro A4 c4 w4 hown4 hg4 hsl4; have h04 := hown4; rw [HXT.out] at h04; have HO4 := hid h04; have HK4 := hid (Keep.grown (HK.out.alloc _) hg4 (fun k hk e => by have := (HO.out.lt k e).1; omega)); clear hown4 hg4 hsl4 h04))
      go_roundw
      case rel => exact ⟨j + 1, by omega, by go_num, A4, c4, rfl, HO4.out, HK4.out⟩
      case measure => simp [intOf]; omega
  · obtain rfl : W.length = j := by omega
    have hne := ownBlock_ne HO.out (HK.out.blk HB.out (fun h => h)) (by decide)
    have HNE := hid hne
    clear hne
    go_wp2_with fail
    go_end0
    have hm := HM.out
    refine ⟨rfl, A1, c1, ⟨?_, hm.bm, ?_, ?_, ?_⟩, (HK.out.mono (fun _ h => h.elim)).set _ _ (fun _ => rfl), ?_⟩
    · simpa [World.setCell] using Nat.le_trans hm.base HK.out.size
    · have h := (HK.out.blk HB.out (fun h => h)).set 0 (.slice A1 W.length c1)
      simpa using h
    · have h := ownsRow_other (own_base HO.out hm.base) (a := ⟨m, 0, none⟩) (.slice A1 W.length c1) (fun e => HNE.out e.symm)
      rw [List.take_of_length_le (by simp)] at h
      simpa using h
    · have h := ownsRow_keep hm.log HK.out (fun _ _ h => h)
      exact ownsRow_other h _ (fun e => ownBlock_ne h (HK.out.blk HB.out (fun h => h)) (by decide) e.symm)
    · intro k hk
      exact (HO.out.lt k ((own_any _ _ _ _ _).trans hk)).1
end Go.Proofs.YthaceckccobgeaaGreat

namespace Go.Proofs.YthaceckccobgeaaGreat
open Go.RowKit
set_option linter.unusedVariables false
set_option linter.unusedSimpArgs false
theorem own_own_ne {w : World} {B1 B2 : Nat} {e1 e2 : TypeId} {s1 s2 : Nat} {v1 v2 : Value} {n1 n2 : Nat} {x1 x2 : List Value} (h1 : w.ownsRow B1 e1 s1 v1 n1 x1) (h2 : w.ownsRow B2 e2 s2 v2 n2 x2) (he : e1 ≠ e2) : ∀ k, v1.ownBlock = some k → v2.ownBlock ≠ some k := by
 intro k hk hk2
 rcases h1.2 with ⟨rfl, _⟩ | ⟨g1, c1, u1, rfl, _, hg1, _⟩
 · simp [Value.ownBlock] at hk
 · rcases h2.2 with ⟨rfl, _⟩ | ⟨g2, c2, u2, rfl, _, hg2, _⟩
   · simp [Value.ownBlock] at hk2
   · simp [Value.ownBlock] at hk hk2
     subst hk hk2
     rw [hg1] at hg2
     simp at hg2
     exact he hg2.2
def RefPost (B : Nat) (w : World) (m : Nat) (A : Option Addr) (lv : Value) (W' : List Int) (L' : List Acc) (w' : World) : Prop :=
 ∃ A' c' lv', RefAt B w' m A' c' lv' W' L' ∧ Keep (fun k => k = m ∨ lv.ownBlock = some k) w w' ∧ (∀ k, (Value.slice A' 0 0).ownBlock = some k → (Value.slice A 0 0).ownBlock = some k ∨ w.heap.size ≤ k) ∧ (∀ k, lv'.ownBlock = some k → lv.ownBlock = some k ∨ w.heap.size ≤ k)
section
variable {B : Nat} {w : World} {m : Nat} {A : Option Addr} {c : Nat} {lv : Value} {W : List Int} {L : List Acc}
theorem RefPost.before {w1 w' : World} {W' : List Int} {L' : List Acc} (h : RefPost B w1 m A lv W' L' w') (hk : Keep0 w w1) : RefPost B w m A lv W' L' w' := by
 obtain ⟨A', c', lv', h1, h2, h3, h4⟩ := h
 exact ⟨A', c', lv', h1, (hk.to (S := fun k => k = m ∨ lv.ownBlock = some k)).trans h2 (fun _ _ h => h), fun k hkk => (h3 k hkk).imp id (fun h => Nat.le_trans hk.size h), fun k hkk => (h4 k hkk).imp id (fun h => Nat.le_trans hk.size h)⟩
set_option maxHeartbeats 2000000 in
set_option maxRecDepth 100000 in
theorem ref_log (x : Acc) (hm : RefAt B w m A c lv W L) (hL : L.length ≤ 1000000000) :
 Calls Tryz.prog 92 #[ptr m, .agg #[i64 x.kind, i64 x.w, i64 x.a, i64 x.b, .bool x.ok]] w fun e w' => e = .returned (.tuple #[]) ∧ RefPost B w m A lv W (L ++ [x]) w' := by
 obtain ⟨xk, xi, xa, xb, xo⟩ := x
 obtain ⟨i0, hti, hz0, hz1, hz2⟩ := info_parts info_acc
 have HI := hid hti
 clear hti
 have HM := hid hm
 clear hm
 go_enter Tryz.func92, Tryz.ntmps92
 go_wp2_with fail
 have HK2 : Hid (Keep0 w (w.alloc (.cells #[i64 xk, i64 xi, i64 xa, i64 xb, .bool xo] 112))) := hid ((Keep.refl _ _).alloc _)
 have HX2 : Hid (Blk (w.alloc (.cells #[i64 xk, i64 xi, i64 xa, i64 xb, .bool xo] 112)) w.heap.size 112 [i64 xk, i64 xi, i64 xa, i64 xb, .bool xo]) := hid (Blk.made rfl rfl)
 generalize w.alloc (.cells #[i64 xk, i64 xi, i64 xa, i64 xb, .bool xo] 112) = w2 at *
 have hm2 := HM.out.keep HK2.out (fun _ _ h => h)
 have HR2 := hid hm2
 have HM2 := hid hm2.mem
 have HL2 := hid hm2.log
 have HB2 := hid hm2.base
 have q2 := hm2.mem.k2
 have qx := HX2.out.k5
 clear hm2
 go_region_law (refine step_append_own ?a1 (.tmp 8) (.tmp 10) 40 ?a2 (B) 112 i0 ?z 5 40 ?a3 ?a4 ?a5 ?a6 ?a7 ?a8 ?a9 (lv) (L.length) (accs L) ?a10 ?hown (⟨w2.heap.size, 0, none⟩) (1) (1) (Acc.cells ⟨xk, xi, xa, xb, xo⟩) ?a11 ?a12 ?hnews ?hone ?h63 ?hby ?hbase ?_; (case a1 => rfl); (case a2 => rfl); (case a3 => exact Tryz.underlying40); (case a4 => exact HI.out); (case a5 => exact hz0); (case a6 => exact hz1); (case a7 => exact hz2); (case a8 => rfl); (case a9 => decide); (case a10 => rfl); (case a11 => rfl); (case a12 => rfl); (case hown => exact ownsRow_keep (S := fun _ => False) HL2.out (by repeat (first | exact Keep.refl _ _ | apply Keep.drew | apply Keep.alloc)) (fun _ _ h => h)); (case h63 => unfold maxLen; omega); (case hby => omega); (case hnews => exact news_at (by repeat (first | exact Blk.made (w := w2) (t := 112) (c := #[i64 xk, i64 xi, i64 xa, i64 xb, .bool xo]) rfl rfl | apply Blk.drew))); (case hone => simp [Acc.cells, Value.oneCell']); (case hbase => have := HB2.out; simp; omega); intro A3 c3 w3 hown3 hg3 hsl3; have T := grown_blk hg3 (by repeat (first | exact HM2.out | apply Blk.drew | apply Blk.alloc)) (ownBlock_ne HL2.out HM2.out (by decide)); have q3 := T.k2; have HM3 := hid T; have HL3 := hid hown3; have HG3 := hid hg3; have HS3 := hid hsl3.1; clear hown3 hg3 hsl3 T)
 all_goals
  go_wp2_with fail
  go_end0
  have hr := HR2.out
  have hk3 : Keep (fun k => lv.ownBlock = some k) w2 w3 := Keep.grown (by repeat (first | exact Keep.refl _ _ | apply Keep.drew | apply Keep.alloc)) HG3.out (fun _ _ h => h)
  have hw3 := ownsRow_keep hr.words hk3 (own_own_ne hr.words hr.log (by decide))
  have hwm := ownBlock_ne hw3 HM3.out (by decide)
  have hlm := ownBlock_ne HL3.out HM3.out (by decide)
  refine ⟨rfl, A, c, .slice A3 (L.length + 1) c3, ⟨?_, hr.bm, HM3.out.set 1 _, ownsRow_other hw3 _ (fun e => hwm e.symm), ?_⟩, ?_, fun k h => Or.inl h, ?_⟩
  · have := hk3.size
    have := hr.base
    simp [World.setCell]
    omega
  · have h := ownsRow_other HL3.out (a := ⟨m, 1, none⟩) (.slice A3 (L.length + 1) c3) (fun e => hlm e.symm)
    rw [accs_snoc, List.length_append]
    exact h
  · exact ((HK2.out.to (S := fun k => k = m ∨ lv.ownBlock = some k)).trans (hk3.mono (fun _ h => Or.inr h)) (fun _ _ h => h)).set _ _ (fun _ => Or.inl rfl)
  · intro k h
    rcases HS3.out k h with h | h
    · exact Or.inl h
    · right
      have := HK2.out.size
      simp at h
      omega
theorem RefPost.trans {w1 w2 : World} {A1 : Option Addr} {lv1 : Value} {W2 : List Int} {L2 : List Acc} (hk : Keep (fun k => k = m ∨ lv.ownBlock = some k) w w1)
 (hA : ∀ k, (Value.slice A1 0 0).ownBlock = some k → (Value.slice A 0 0).ownBlock = some k ∨ w.heap.size ≤ k) (hl : ∀ k, lv1.ownBlock = some k → lv.ownBlock = some k ∨ w.heap.size ≤ k)
 (h : RefPost B w1 m A1 lv1 W2 L2 w2) : RefPost B w m A lv W2 L2 w2 := by
 obtain ⟨A', c', lv', h1, h2, h3, h4⟩ := h
 refine ⟨A', c', lv', h1, hk.trans h2 ?_, fun k hkk => ?_, fun k hkk => ?_⟩
 · rintro k hkw (rfl | h)
   · exact Or.inl rfl
   · rcases hl k h with h | h
     · exact Or.inr h
     · omega
 · rcases h3 k hkk with h | h
   · exact hA k h
   · exact Or.inr (Nat.le_trans hk.size h)
 · rcases h4 k hkk with h | h
   · exact hl k h
   · exact Or.inr (Nat.le_trans hk.size h)
theorem ref_PokeP (i x : Int) (hm : RefAt B w m A c lv W L) (h0 : 0 ≤ i) (hi : i < W.length) (hW : W.length ≤ 1000000) :
 Calls Tryz.prog 76 #[ptr m, i64 i, i64 x] w fun e w' => e = .returned (.tuple #[]) ∧ RefPost B w m A lv (W.set i.toNat x) L w' :=
 (ref_Poke B w m A c lv W L i x hm h0 hi hW).mono fun e w' ⟨h1, A', c', h2, h3, h4⟩ => ⟨h1, A', c', lv, h2, h3.mono (fun _ h => Or.inl h), fun k h => Or.inr (h4 k h), fun k h => Or.inl h⟩
theorem RefAt.cells (hm : RefAt B w m A c lv W L) {i : Nat} (hi : i < W.length) : ∃ g, A = some ⟨g, 0, none⟩ ∧ w.cell? ⟨g, i, none⟩ = some (i64 (rd W i)) ∧ g < w.heap.size := by
 obtain ⟨g, e, hg, _⟩ := ints_own hm.words (by omega) rfl
 exact ⟨g, e, hg.cell i hi, hg.lt⟩
set_option maxHeartbeats 1000000 in
theorem ref_Load (i : Int) (hm : RefAt B w m A c lv W L) (h0 : 0 ≤ i) (hi : i < W.length) (hL : L.length ≤ 1000000000) :
 Calls Tryz.prog 86 #[ptr m, i64 i] w fun e w' => e = .returned (i64 (rd W i.toNat)) ∧ RefPost B w m A lv W (L ++ [⟨1, i, rd W i.toNat, 0, false⟩]) w' := by
 obtain ⟨i, rfl⟩ := Int.eq_ofNat_of_zero_le h0
 rw [Int.toNat_natCast]
 have hi' : i < W.length := by omega
 obtain ⟨g, rfl, hg, hgl⟩ := hm.cells hi'
 have hms := hm.mem.k2
 have HM := hid hm
 clear hm
 go_enter Tryz.func86, Tryz.ntmps86
 go_wp2_with fail
 refine (ref_log ⟨1, i, rd W i, 0, false⟩ HM.out hL).mono ?_
 rintro e w1 ⟨rfl, hp⟩
 have HP := hid hp
 obtain ⟨A1, c1, lv1, h1, _⟩ := hp
 obtain ⟨g1, rfl, hg1, hgl1⟩ := h1.cells hi'
 have hms1 := h1.mem.k2
 clear h1 hms hg
 go_wp2_with fail
 go_ret
 exact ⟨rfl, HP.out⟩
set_option maxHeartbeats 1000000 in
theorem ref_Add (i d : Int) (hm : RefAt B w m A c lv W L) (h0 : 0 ≤ i) (hi : i < W.length) (hW : W.length ≤ 1000000) (hL : L.length ≤ 1000000000) :
 Calls Tryz.prog 53 #[ptr m, i64 i, i64 d] w fun e w' => e = .returned (i64 (wrap64 (rd W i.toNat + d))) ∧ RefPost B w m A lv (W.set i.toNat (wrap64 (rd W i.toNat + d))) (L ++ [⟨2, i, d, wrap64 (rd W i.toNat + d), false⟩]) w' := by
 obtain ⟨i, rfl⟩ := Int.eq_ofNat_of_zero_le h0
 rw [Int.toNat_natCast]
 have hi' : i < W.length := by omega
 obtain ⟨g, rfl, hg, hgl⟩ := hm.cells hi'
 have hms := hm.mem.k2
 have HM := hid hm
 clear hm
 go_enter Tryz.func53, Tryz.ntmps53
 go_wp2_with fail
 refine (ref_PokeP i (wrap64 (rd W i + d)) HM.out (by omega) (by omega) hW).mono ?_
 rintro e w1 ⟨rfl, A1, c1, lv1, h1, k1, ha1, hl1⟩
 rw [Int.toNat_natCast] at h1
 have hx : rd (W.set i (wrap64 (rd W i + d))) i = wrap64 (rd W i + d) := by simp [rd, hi']
 have HX := hid hx
 clear hx
 generalize hy : wrap64 (rd W i + d) = y at *
 have HY := hid hy
 clear hy
 have hi1 : i < (W.set i y).length := by simpa using hi'
 obtain ⟨g1, rfl, hg1, hgl1⟩ := h1.cells hi1
 rw [HX.out] at hg1
 have hms1 := h1.mem.k2
 rw [List.length_set] at hms1
 have H1 := hid h1
 have HT := hid (fun (w2 : World) (L2 : List Acc) (h : RefPost B w1 m (some ⟨g1, 0, none⟩) lv1 (W.set i y) L2 w2) => RefPost.trans (A := some ⟨g, 0, none⟩) k1 ha1 hl1 h)
 clear h1 k1 ha1 hl1 hms hg
 go_wp2_with fail
 refine (ref_log ⟨2, i, d, y, false⟩ H1.out hL).mono ?_
 rintro e w2 ⟨rfl, hp⟩
 have HP := hid (HT.out _ _ hp)
 obtain ⟨A2, c2, lv2, h2, _⟩ := hp
 obtain ⟨g2, rfl, hg2, hgl2⟩ := h2.cells hi1
 rw [HX.out] at hg2
 have hms2 := h2.mem.k2
 rw [List.length_set] at hms2
 clear h2 hms1 hg1
 go_wp2_with fail
 go_ret
 have hy := HY.out
 subst hy
 exact ⟨rfl, HP.out⟩
set_option maxHeartbeats 1000000 in
theorem ref_Store (i x : Int) (hm : RefAt B w m A c lv W L) (h0 : 0 ≤ i) (hi : i < W.length) (hW : W.length ≤ 1000000) (hL : L.length ≤ 1000000000) :
 Calls Tryz.prog 57 #[ptr m, i64 i, i64 x] w fun e w' => e = .returned (.tuple #[]) ∧ RefPost B w m A lv (W.set i.toNat x) (L ++ [⟨4, i, x, 0, false⟩]) w' := by
 have HM := hid hm
 clear hm
 go_enter Tryz.func57, Tryz.ntmps57
 go_wp2_with fail
 refine (ref_PokeP i x HM.out h0 hi hW).mono ?_
 rintro e w1 ⟨rfl, A1, c1, lv1, h1, k1, ha1, hl1⟩
 have H1 := hid h1
 have HT := hid (fun (w2 : World) (L2 : List Acc) (h : RefPost B w1 m A1 lv1 (W.set i.toNat x) L2 w2) => RefPost.trans (A := A) k1 ha1 hl1 h)
 clear h1 k1 ha1 hl1
 go_wp2_with fail
 refine (ref_log ⟨4, i, x, 0, false⟩ H1.out hL).mono ?_
 rintro e w2 ⟨rfl, hp⟩
 have HP := hid (HT.out _ _ hp)
 clear hp
 go_wp2_with fail
 go_end0
 exact ⟨rfl, HP.out⟩
set_option maxHeartbeats 1000000 in
theorem ref_Cas (i old x : Int) (hm : RefAt B w m A c lv W L) (h0 : 0 ≤ i) (hi : i < W.length) (hW : W.length ≤ 1000000) (hL : L.length ≤ 1000000000) :
 Calls Tryz.prog 88 #[ptr m, i64 i, i64 old, i64 x] w fun e w' => e = .returned (.bool (rd W i.toNat == old)) ∧ RefPost B w m A lv (casW W i.toNat old x) (L ++ [⟨3, i, old, x, rd W i.toNat == old⟩]) w' := by
 obtain ⟨i, rfl⟩ := Int.eq_ofNat_of_zero_le h0
 rw [Int.toNat_natCast]
 have hi' : i < W.length := by omega
 obtain ⟨g, rfl, hg, hgl⟩ := hm.cells hi'
 have hms := hm.mem.k2
 have HM := hid hm
 clear hm
 cases hb : (rd W i == old)
 · have hw : casW W i old x = W := by simp_all [casW]
   rw [hw]
   clear hw
   go_enter Tryz.func88, Tryz.ntmps88
   go_wp2_with fail
   refine (ref_log ⟨3, i, old, x, false⟩ HM.out hL).mono ?_
   rintro e w1 ⟨rfl, hp⟩
   have HP := hid hp
   clear hp
   go_wp2_with fail
   go_ret
   exact ⟨rfl, HP.out⟩
 · have hw : casW W i old x = W.set i x := by simp_all [casW]
   rw [hw]
   clear hw
   go_enter Tryz.func88, Tryz.ntmps88
   go_wp2_with fail
   refine (ref_PokeP i x HM.out (by omega) (by omega) hW).mono ?_
   rintro e w1 ⟨rfl, A1, c1, lv1, h1, k1, ha1, hl1⟩
   rw [Int.toNat_natCast] at h1
   have H1 := hid h1
   have HT := hid (fun (w2 : World) (L2 : List Acc) (h : RefPost B w1 m A1 lv1 (W.set i x) L2 w2) => RefPost.trans (A := some ⟨g, 0, none⟩) k1 ha1 hl1 h)
   clear h1 k1 ha1 hl1
   go_wp2_with fail
   refine (ref_log ⟨3, i, old, x, true⟩ H1.out hL).mono ?_
   rintro e w2 ⟨rfl, hp⟩
   have HP := hid (HT.out _ _ hp)
   clear hp
   go_wp2_with fail
   go_ret
   exact ⟨rfl, HP.out⟩
end
end Go.Proofs.YthaceckccobgeaaGreat

namespace Go.Proofs.YthaceckccobgeaaGreat
open Go.RowKit
set_option linter.unusedVariables false
set_option linter.unusedSimpArgs false
structure Ass where
 At : (Nat → Prop) → World → Prop
 st : ∀ {R S : Nat → Prop} {w w' : World}, At R w → Keep S w w' → (∀ k, R k → ¬ S k) → At R w'
 lt : ∀ {R : Nat → Prop} {w : World}, At R w → ∀ k, R k → k < w.heap.size
def Ass.emp : Ass := ⟨fun R _ => ∀ k, ¬ R k, fun h _ _ => h, fun h k hk => (h k hk).elim⟩
def Ass.star (p q : Ass) : Ass where
 At U w := ∃ R V, p.At R w ∧ q.At V w ∧ (∀ k, R k → ¬ V k) ∧ (∀ k, U k ↔ R k ∨ V k)
 st := by
  rintro U S w w' ⟨R, V, h1, h2, h3, h4⟩ hk hS
  exact ⟨R, V, p.st h1 hk (fun k h => hS k ((h4 k).2 (Or.inl h))), q.st h2 hk (fun k h => hS k ((h4 k).2 (Or.inr h))), h3, h4⟩
 lt := by
  rintro U w ⟨R, V, h1, h2, h3, h4⟩ k hk
  rcases (h4 k).1 hk with h | h
  · exact p.lt h1 k h
  · exact q.lt h2 k h
def Ass.ex {α : Type} (f : α → Ass) : Ass where
 At U w := ∃ x, (f x).At U w
 st := by rintro R S w w' ⟨x, h⟩ hk hS; exact ⟨x, (f x).st h hk hS⟩
 lt := by rintro R w ⟨x, h⟩ k hk; exact (f x).lt h k hk
def Ass.with_ (p : Ass) (φ : Prop) : Ass where
 At U w := p.At U w ∧ φ
 st := by rintro R S w w' ⟨h, x⟩ hk hS; exact ⟨p.st h hk hS, x⟩
 lt := by rintro R w ⟨h, x⟩ k hk; exact p.lt h k hk
def Ass.blk (b : Nat) (T : TypeId) (cs : List Value) : Ass where
 At U w := Blk w b T cs ∧ ∀ k, U k ↔ k = b
 st := by rintro R S w w' ⟨h, e⟩ hk hS; exact ⟨hk.blk h (hS b ((e b).2 rfl)), e⟩
 lt := by rintro R w ⟨h, e⟩ k hk; rw [(e k).1 hk]; exact h.lt
def stars : List Ass → Ass
 | [] => Ass.emp
 | p :: l => p.star (stars l)
section
variable {p q r : Ass} {l l' : List Ass} {U R : Nat → Prop} {w w' w0 : World}
theorem star_swap (h : (p.star (q.star r)).At U w) : (q.star (p.star r)).At U w := by
 obtain ⟨R, V, h1, ⟨R2, V2, h5, h6, h7, h8⟩, h3, h4⟩ := h
 refine ⟨R2, fun k => R k ∨ V2 k, h5, ⟨R, V2, h1, h6, fun k h hv => h3 k h ((h8 k).2 (Or.inr hv)), fun k => Iff.rfl⟩, ?_, ?_⟩
 · rintro k h (hr | hv)
   · exact h3 k hr ((h8 k).2 (Or.inl h))
   · exact h7 k h hv
 · intro k
   rw [h4, h8]
   constructor
   · rintro (h | h | h)
     · exact Or.inr (Or.inl h)
     · exact Or.inl h
     · exact Or.inr (Or.inr h)
   · rintro (h | h | h)
     · exact Or.inr (Or.inl h)
     · exact Or.inl h
     · exact Or.inr (Or.inr h)
theorem star_assoc (h : ((p.star q).star r).At U w) : (p.star (q.star r)).At U w := by
 obtain ⟨R, V, ⟨R2, V2, h5, h6, h7, h8⟩, h1, h3, h4⟩ := h
 refine ⟨R2, fun k => V2 k ∨ V k, h5, ⟨V2, V, h6, h1, fun k h hv => h3 k ((h8 k).2 (Or.inr h)) hv, fun k => Iff.rfl⟩, ?_, ?_⟩
 · rintro k h (hv | hv)
   · exact h7 k h hv
   · exact h3 k ((h8 k).2 (Or.inl h)) hv
 · intro k
   rw [h4, h8, or_assoc]
theorem star_assoc' (h : (p.star (q.star r)).At U w) : ((p.star q).star r).At U w := by
 obtain ⟨R, V, h1, ⟨R2, V2, h5, h6, h7, h8⟩, h3, h4⟩ := h
 refine ⟨fun k => R k ∨ R2 k, V2, ⟨R, R2, h1, h5, fun k h hv => h3 k h ((h8 k).2 (Or.inl hv)), fun k => Iff.rfl⟩, h6, ?_, ?_⟩
 · rintro k (h | h) hv
   · exact h3 k h ((h8 k).2 (Or.inr hv))
   · exact h7 k h hv
 · intro k
   rw [h4, h8, or_assoc]
theorem star_mono_r (h : (p.star q).At U w) (hq : ∀ V, q.At V w → r.At V w) : (p.star r).At U w := by
 obtain ⟨R, V, h1, h2, h3, h4⟩ := h
 exact ⟨R, V, h1, hq V h2, h3, h4⟩
theorem star_mono_l (h : (p.star q).At U w) (hq : ∀ V, p.At V w → r.At V w) : (r.star q).At U w := by
 obtain ⟨R, V, h1, h2, h3, h4⟩ := h
 exact ⟨R, V, hq R h1, h2, h3, h4⟩
theorem stars_perm (hp : l.Perm l') : ∀ U, (stars l).At U w → (stars l').At U w := by
 induction hp with
 | nil => exact fun U h => h
 | cons x _ ih => exact fun U h => star_mono_r h ih
 | swap x y l => exact fun U h => star_swap h
 | trans _ _ ih1 ih2 => exact fun U h => ih2 U (ih1 U h)
def Tr (q : Ass) (R : Nat → Prop) (w w' : World) : Prop := ∃ R', q.At R' w' ∧ Keep R w w' ∧ ∀ k, R' k → R k ∨ w.heap.size ≤ k
def Nw (q : Ass) (w w' : World) : Prop := ∃ R', q.At R' w' ∧ Keep0 w w' ∧ ∀ k, R' k → w.heap.size ≤ k
theorem Tr.refl (h : p.At R w) : Tr p R w w := ⟨R, h, Keep.refl _ _, fun _ h => Or.inl h⟩
theorem Tr.mono {R : Nat → Prop} (h : Tr q R w w') (hq : ∀ V, q.At V w' → r.At V w') : Tr r R w w' := by
 obtain ⟨R', h1, h2, h3⟩ := h
 exact ⟨R', hq R' h1, h2, h3⟩
theorem Tr.trans {w'' : World} (h : Tr q R w w') (h2 : ∀ R', q.At R' w' → Tr r R' w' w'') : Tr r R w w'' := by
 obtain ⟨R1, a1, a2, a3⟩ := h
 obtain ⟨R2, b1, b2, b3⟩ := h2 R1 a1
 refine ⟨R2, b1, a2.trans b2 (fun k hk hr => (a3 k hr).elim id (fun h => by omega)), fun k hk => ?_⟩
 rcases b3 k hk with h | h
 · exact a3 k h
 · exact Or.inr (Nat.le_trans a2.size h)
theorem Tr.keep0 {w'' : World} (h : Tr q R w w') (hk : Keep0 w' w'') : Tr q R w w'' := by
 obtain ⟨R1, a1, a2, a3⟩ := h
 exact ⟨R1, q.st a1 hk (fun _ _ h => h), a2.trans hk (fun _ _ h => h.elim), a3⟩
theorem Tr.frame1 {V : Nat → Prop} (h2 : r.At V w) (h3 : ∀ k, R k → ¬ V k) (h4 : ∀ k, U k ↔ R k ∨ V k) (ht : Tr q R w w') : Tr (q.star r) U w w' := by
 obtain ⟨R1, a1, a2, a3⟩ := ht
 refine ⟨fun k => R1 k ∨ V k, ⟨R1, V, a1, r.st h2 a2 (fun k hv hr => h3 k hr hv), fun k hk hv => ?_, fun k => Iff.rfl⟩, a2.mono (fun k h => (h4 k).2 (Or.inl h)), fun k hk => ?_⟩
 · rcases a3 k hk with h | h
   · exact h3 k h hv
   · have := r.lt h2 k hv; omega
 · rcases hk with h | h
   · exact (a3 k h).imp (fun h => (h4 k).2 (Or.inl h)) id
   · exact Or.inl ((h4 k).2 (Or.inr h))
theorem Tr.frame (h : (p.star r).At U w) (ht : ∀ R, p.At R w → Tr q R w w') : Tr (q.star r) U w w' := by
 obtain ⟨R, V, h1, h2, h3, h4⟩ := h
 exact Tr.frame1 h2 h3 h4 (ht R h1)
theorem Nw.frame (h : r.At U w) (ht : Nw q w w') : Tr (q.star r) U w w' := by
 obtain ⟨R1, a1, a2, a3⟩ := ht
 refine ⟨fun k => R1 k ∨ U k, ⟨R1, U, a1, r.st h a2 (fun _ _ h => h), fun k hk hv => ?_, fun k => Iff.rfl⟩, a2.to, fun k hk => ?_⟩
 · have := a3 k hk; have := r.lt h k hv; omega
 · exact hk.elim (fun h => Or.inr (a3 k h)) Or.inl
structure St (w0 : World) (l : List Ass) (w : World) : Prop where
 k : Keep0 w0 w
 at_ : ∃ U, (stars l).At U w ∧ ∀ k, U k → w0.heap.size ≤ k
theorem St.nil (h : Keep0 w0 w) : St w0 [] w := ⟨h, fun _ => False, fun k h => h, fun k h => h.elim⟩
theorem St.keep (h : St w0 l w) (hk : Keep0 w w') : St w0 l w' := by
 obtain ⟨h1, U, h2, h3⟩ := h
 exact ⟨Keep0.step h1 hk, U, (stars l).st h2 hk (fun _ _ h => h), h3⟩
theorem St.alloc (h : St w0 l w) (o : Obj) : St w0 l (w.alloc o) := h.keep ((Keep.refl _ _).alloc o)
theorem St.drew (h : St w0 l w) : St w0 l w.drew := h.keep (Keep.refl _ _).drew
theorem St.drewN (h : St w0 l w) (n : Nat) : St w0 l (w.drewN n) := h.keep ((Keep.refl _ _).drewN n)
theorem St.perm (h : St w0 l w) (hp : l.Perm l') : St w0 l' w := by
 obtain ⟨h1, U, h2, h3⟩ := h
 exact ⟨h1, U, stars_perm hp U h2, h3⟩
theorem pick_perm {α : Type _} : ∀ (l : List α) (i : Nat) (hi : i < l.length), l.Perm (l[i] :: l.eraseIdx i)
 | x :: l, 0, _ => List.Perm.refl _
 | x :: l, i + 1, hi => ((pick_perm l i (by simpa using hi)).cons x).trans (List.Perm.swap _ _ _)
theorem St.pick (h : St w0 l w) (i : Nat) (hi : i < l.length) : St w0 (l[i] :: l.eraseIdx i) w := h.perm (pick_perm l i hi)
theorem St.pair (h : St w0 (p :: q :: l) w) : St w0 (p.star q :: l) w := by
 obtain ⟨h1, U, h2, h3⟩ := h
 exact ⟨h1, U, star_assoc' h2, h3⟩
theorem St.part (h : St w0 (p.star q :: l) w) : St w0 (p :: q :: l) w := by
 obtain ⟨h1, U, h2, h3⟩ := h
 exact ⟨h1, U, star_assoc h2, h3⟩
theorem St.get (h : St w0 (p :: l) w) : ∃ R, p.At R w ∧ ∀ k, R k → w0.heap.size ≤ k := by
 obtain ⟨h1, U, ⟨R, V, h2, h4, h5, h6⟩, h3⟩ := h
 exact ⟨R, h2, fun k h => h3 k ((h6 k).2 (Or.inl h))⟩
theorem St.mono (h : St w0 (p :: l) w) (hq : ∀ V, p.At V w → (∀ k, V k → w0.heap.size ≤ k) → q.At V w) : St w0 (q :: l) w := by
 obtain ⟨h1, U, ⟨R, V, h4, h5, h6, h7⟩, h3⟩ := h
 exact ⟨h1, U, ⟨R, V, hq R h4 (fun k h => h3 k ((h7 k).2 (Or.inl h))), h5, h6, h7⟩, h3⟩
theorem St.drop (h : St w0 (p :: l) w) : St w0 l w := by
 obtain ⟨h1, U, ⟨R, V, h2, h4, h5, h6⟩, h3⟩ := h
 exact ⟨h1, V, h4, fun k h => h3 k ((h6 k).2 (Or.inr h))⟩
theorem St.one (h1 : Keep0 w0 w) (h : p.At R w) (hR : ∀ k, R k → w0.heap.size ≤ k) : St w0 [p] w :=
 ⟨h1, R, ⟨R, fun _ => False, h, fun k h => h, fun _ _ h => h, fun k => ⟨Or.inl, fun h => h.elim id False.elim⟩⟩, hR⟩
theorem Keep0.trTo {R : Nat → Prop} (h : Keep0 w0 w) (hk : Keep R w w') (hR : ∀ k, R k → w0.heap.size ≤ k) : Keep0 w0 w' :=
 h.trans hk (fun k hk hr => by have := hR k hr; omega)
theorem Nw.blk {b : Nat} {T : TypeId} {cs : List Value} (hb : Blk w' b T cs) (hk : Keep0 w w') (hz : w.heap.size ≤ b) : Nw (Ass.blk b T cs) w w' := ⟨fun k => k = b, ⟨hb, fun k => Iff.rfl⟩, hk, fun k h => by subst h; exact hz⟩
theorem St.of_tr {U : Nat → Prop} (h1 : Keep0 w0 w) (h3 : ∀ k, U k → w0.heap.size ≤ k) (ht : Tr (stars l) U w w') : St w0 l w' := by
 obtain ⟨R, h4, h5, h6⟩ := ht
 exact ⟨h1.trTo h5 h3, R, h4, fun k hk => (h6 k hk).elim (h3 k) (fun h => Nat.le_trans h1.size h)⟩
theorem St.tr (h : St w0 (p :: l) w) (ht : ∀ R, p.At R w → Tr q R w w') : St w0 (q :: l) w' := by
 obtain ⟨h1, U, h2, h3⟩ := h
 exact St.of_tr (l := q :: l) h1 h3 (Tr.frame h2 ht)
theorem St.nw (h : St w0 l w) (ht : Nw q w w') : St w0 (q :: l) w' := by
 obtain ⟨h1, U, h2, h3⟩ := h
 exact St.of_tr (l := q :: l) h1 h3 (Nw.frame h2 ht)
theorem St.callx {α : Type} {P : Program} {f : FuncId} {args : Array Value} {φ : α → Ending → Prop} {q : α → Ass} (h : St w0 (p :: l) w)
 (hc : ∀ R, p.At R w → (∀ k, R k → w0.heap.size ≤ k) → Calls P f args w fun e w' => ∃ x, φ x e ∧ Tr (q x) R w w') :
 Calls P f args w fun e w' => ∃ x, φ x e ∧ St w0 (q x :: l) w' := by
 obtain ⟨h1, U, ⟨R, V, h4, h5, h6, h7⟩, h3⟩ := h
 refine (hc R h4 (fun k hk => h3 k ((h7 k).2 (Or.inl hk)))).mono ?_
 rintro e w' ⟨x, hφ, ht⟩
 exact ⟨x, hφ, St.of_tr (l := q x :: l) h1 h3 (Tr.frame1 h5 h6 h7 ht)⟩
theorem St.call {P : Program} {f : FuncId} {args : Array Value} {φ : Ending → Prop} (h : St w0 (p :: l) w)
 (hc : ∀ R, p.At R w → (∀ k, R k → w0.heap.size ≤ k) → Calls P f args w fun e w' => φ e ∧ Tr q R w w') :
 Calls P f args w fun e w' => φ e ∧ St w0 (q :: l) w' := by
 refine (h.callx (α := Unit) (φ := fun _ => φ) (q := fun _ => q) (fun R hr hz => (hc R hr hz).mono (fun e w' h => ⟨(), h.1, h.2⟩))).mono ?_
 rintro e w' ⟨_, h1, h2⟩
 exact ⟨h1, h2⟩
theorem St.newx {α : Type} {P : Program} {f : FuncId} {args : Array Value} {φ : α → Ending → Prop} {q : α → Ass} (h : St w0 l w)
 (hc : Calls P f args w fun e w' => ∃ x, φ x e ∧ Nw (q x) w w') : Calls P f args w fun e w' => ∃ x, φ x e ∧ St w0 (q x :: l) w' := by
 refine hc.mono ?_
 rintro e w' ⟨x, hφ, ht⟩
 exact ⟨x, hφ, h.nw ht⟩
def Sx (R : Nat → Prop) (w0 : World) (l : List Ass) (w : World) : Prop := Tr (stars l) R w0 w
section
variable {R0 : Nat → Prop}
theorem Sx.start (h : (stars l).At R0 w) : Sx R0 w l w := Tr.refl h
theorem Sx.keep (h : Sx R0 w0 l w) (hk : Keep0 w w') : Sx R0 w0 l w' := Tr.keep0 h hk
theorem Sx.alloc (h : Sx R0 w0 l w) (o : Obj) : Sx R0 w0 l (w.alloc o) := h.keep ((Keep.refl _ _).alloc o)
theorem Sx.drew (h : Sx R0 w0 l w) : Sx R0 w0 l w.drew := h.keep (Keep.refl _ _).drew
theorem Sx.drewN (h : Sx R0 w0 l w) (n : Nat) : Sx R0 w0 l (w.drewN n) := h.keep ((Keep.refl _ _).drewN n)
theorem Sx.perm (h : Sx R0 w0 l w) (hp : l.Perm l') : Sx R0 w0 l' w := Tr.mono h (stars_perm hp)
theorem Sx.pick (h : Sx R0 w0 l w) (i : Nat) (hi : i < l.length) : Sx R0 w0 (l[i] :: l.eraseIdx i) w := h.perm (pick_perm l i hi)
theorem Sx.pair (h : Sx R0 w0 (p :: q :: l) w) : Sx R0 w0 (p.star q :: l) w := Tr.mono h (fun _ h => star_assoc' h)
theorem Sx.part (h : Sx R0 w0 (p.star q :: l) w) : Sx R0 w0 (p :: q :: l) w := Tr.mono h (fun _ h => star_assoc h)
theorem Sx.get (h : Sx R0 w0 (p :: l) w) : ∃ R, p.At R w ∧ ∀ k, R k → R0 k ∨ w0.heap.size ≤ k := by
 obtain ⟨U, ⟨R, V, h2, h4, h5, h6⟩, _, h3⟩ := h
 exact ⟨R, h2, fun k h => h3 k ((h6 k).2 (Or.inl h))⟩
theorem Sx.drop (h : Sx R0 w0 (p :: l) w) : Sx R0 w0 l w := by
 obtain ⟨U, ⟨R, V, h2, h4, h5, h6⟩, hk, h3⟩ := h
 exact ⟨V, h4, hk, fun k h => h3 k ((h6 k).2 (Or.inr h))⟩
theorem Sx.tr (h : Sx R0 w0 (p :: l) w) (ht : ∀ R, p.At R w → Tr q R w w') : Sx R0 w0 (q :: l) w' := Tr.trans h (fun _ hu => Tr.frame hu ht)
theorem Sx.nw (h : Sx R0 w0 l w) (ht : Nw q w w') : Sx R0 w0 (q :: l) w' := Tr.trans h (fun _ hu => Nw.frame hu ht)
theorem Sx.callx {α : Type} {P : Program} {f : FuncId} {args : Array Value} {φ : α → Ending → Prop} {q : α → Ass} (h : Sx R0 w0 (p :: l) w)
 (hc : ∀ R, p.At R w → (∀ k, R k → R0 k ∨ w0.heap.size ≤ k) → Calls P f args w fun e w' => ∃ x, φ x e ∧ Tr (q x) R w w') :
 Calls P f args w fun e w' => ∃ x, φ x e ∧ Sx R0 w0 (q x :: l) w' := by
 obtain ⟨U, ⟨R, V, h4, h5, h6, h7⟩, hk, h3⟩ := h
 refine (hc R h4 (fun k hk => h3 k ((h7 k).2 (Or.inl hk)))).mono ?_
 rintro e w' ⟨x, hφ, ht⟩
 obtain ⟨U', g1, g2, g3⟩ := Tr.frame1 h5 h6 h7 ht
 exact ⟨x, hφ, U', g1, hk.trans g2 (fun k hk hu => (h3 k hu).elim id (fun h => by omega)), fun k hu => (g3 k hu).elim (h3 k) (fun h => Or.inr (Nat.le_trans hk.size h))⟩
theorem Sx.call {P : Program} {f : FuncId} {args : Array Value} {φ : Ending → Prop} (h : Sx R0 w0 (p :: l) w)
 (hc : ∀ R, p.At R w → (∀ k, R k → R0 k ∨ w0.heap.size ≤ k) → Calls P f args w fun e w' => φ e ∧ Tr q R w w') :
 Calls P f args w fun e w' => φ e ∧ Sx R0 w0 (q :: l) w' := by
 refine (h.callx (α := Unit) (φ := fun _ => φ) (q := fun _ => q) (fun R hr hz => (hc R hr hz).mono (fun e w' h => ⟨(), h.1, h.2⟩))).mono ?_
 rintro e w' ⟨_, h1, h2⟩
 exact ⟨h1, h2⟩
end
end
end Go.Proofs.YthaceckccobgeaaGreat


namespace Go.Proofs.YthaceckccobgeaaGreat
open Go.RowKit
set_option linter.unusedVariables false
set_option linter.unusedSimpArgs false
set_option maxRecDepth 100000
set_option maxHeartbeats 1000000 in
theorem play_SL {τ : Type} (Mt : τ → Ass) (Inv : Nat → τ → Prop) (stp : τ → τ × Bool) (pk : τ → Nat → Int → τ) (len : Nat) (F : FuncId) (xT : TypeId) (x m : Nat) (l : List Pk) (A0 : Option Addr) (kb ko c most : Nat) (w : World) (R : Nat → Prop) (t : τ)
 (hmost : most ≤ 1000000) (hl : l.length ≤ 1000000) (hlen : len ≤ 1000000) (ht : (Mt t).At R w) (hi : Inv 0 t) (hA0 : 0 < l.length → A0 = some ⟨kb, ko, none⟩ ∧ kb < w.heap.size ∧ ¬ R kb)
 (hcells : ∀ i (h : i < l.length), w.cell? ⟨kb, ko + i * 3, none⟩ = some (i64 l[i].at_) ∧ w.cell? ⟨kb, ko + i * 3 + 1, none⟩ = some (i64 l[i].w) ∧ w.cell? ⟨kb, ko + i * 3 + 2, none⟩ = some (i64 l[i].x))
 (hmem : ∀ n R w t, (Mt t).At R w → Inv n t → ∃ a lv, Blk w m 106 [.slice (some ⟨a, 0, none⟩) len len, lv])
 (hipk : ∀ n t i x, (∃ p ∈ l, p.w.toNat = i ∧ p.x = x) → i < len → Inv n t → Inv n (pk t i x)) (hist : ∀ n t, n < most → Inv n t → Inv (n + 1) (stp t).1)
 (hpoke : ∀ n R w t (i x : Int), (∃ p ∈ l, p.w = i ∧ p.x = x) → (Mt t).At R w → Inv n t → 0 ≤ i → i < len → Calls Tryz.prog 74 #[ptr m, i64 i, i64 x] w fun e w' => e = .returned (.tuple #[]) ∧ Tr (Mt (pk t i.toNat x)) R w w')
 (hstep : ∀ n R w t, n < most → (Mt t).At R w → Inv n t → Calls Tryz.prog F #[ptr x, ptr m] w fun e w' => e = .returned (.bool (stp t).2) ∧ Tr (Mt (stp t).1) R w w')
 (hmeth : ∀ w, (method 263 xT (ptr x) "Step").run Tryz.prog w = .ok (F, ptr x) w) (hF : ∀ (args : Array Value) (w : World), (callFunc F args).run Tryz.prog w = .ok (.enter F args) w) :
 Calls Tryz.prog 28 #[ptr m, .iface xT (ptr x), .slice A0 l.length c, i64 most] w fun e w' =>
  e = .returned (.tuple #[i64 (playF stp pk len l most 0 t).2.1, .bool (playF stp pk len l most 0 t).2.2]) ∧ Tr (Mt (playF stp pk len l most 0 t).1) R w w' ∧ ∃ n, Inv n (playF stp pk len l most 0 t).1 := by
 have hs0 : (fun (n : Nat) (w1 : World) (t1 : τ) => ∃ R1, (Mt t1).At R1 w1 ∧ Inv n t1 ∧ (∀ k, R1 k → R k ∨ w.heap.size ≤ k) ∧ w.heap.size ≤ w1.heap.size) 0 w t := ⟨R, ht, hi, fun _ h => Or.inl h, Nat.le_refl _⟩
 refine (mem_Play (fun n w1 t1 => ∃ R1, (Mt t1).At R1 w1 ∧ Inv n t1 ∧ (∀ k, R1 k → R k ∨ w.heap.size ≤ k) ∧ w.heap.size ≤ w1.heap.size) stp pk len F xT x m R w.heap.size l A0 kb ko c most w t hmost hl (Nat.le_refl _) hA0 hcells ?_ ?_ ?_ ?_ hmeth hF hs0).mono ?_
 · rintro n w1 t1 ⟨R1, h1, h2, _⟩
   exact hmem n R1 w1 t1 h1 h2
 · rintro n w1 w2 t1 ⟨R1, h1, h2, h3, h4⟩ hk
   exact ⟨R1, (Mt t1).st h1 hk (fun _ _ h => h), h2, h3, Nat.le_trans h4 hk.size⟩
 · rintro n w1 t1 i y hp ⟨R1, h1, h2, h3, h4⟩ hi0 hi1
   refine (hpoke n R1 w1 t1 i y hp h1 h2 hi0 hi1).mono ?_
   rintro e w2 ⟨rfl, R2, g1, g2, g3⟩
   exact ⟨rfl, ⟨R2, g1, hipk n t1 i.toNat y (by obtain ⟨p, hp1, rfl, rfl⟩ := hp; exact ⟨p, hp1, rfl, rfl⟩) (by omega) h2, fun k hk => (g3 k hk).elim (h3 k) (fun h => Or.inr (Nat.le_trans h4 h)), Nat.le_trans h4 g2.size⟩, g2.mono h3⟩
 · rintro n w1 t1 hn ⟨R1, h1, h2, h3, h4⟩
   refine (hstep n R1 w1 t1 hn h1 h2).mono ?_
   rintro e w2 ⟨rfl, R2, g1, g2, g3⟩
   exact ⟨rfl, ⟨R2, g1, hist n t1 hn h2, fun k hk => (g3 k hk).elim (h3 k) (fun h => Or.inr (Nat.le_trans h4 h)), Nat.le_trans h4 g2.size⟩, g2.mono h3⟩
 · rintro e w2 ⟨rfl, ⟨n, R2, g1, g2, g3, g4⟩, hk⟩
   exact ⟨rfl, ⟨R2, g1, hk.trans (Keep.refl (fun _ => False) _) (fun _ _ h => h.elim) |> fun h => ⟨h.os, h.tape, h.output, h.size, fun k hk hn => h.block k hk (fun h => h.elim hn (fun h => by omega))⟩, g3⟩, n, g2⟩
theorem memMF_lt {B : Nat} {w : World} {m a k : Nat} {lv : Value} {W : List Int} {L : List Acc} (hm : MemAt B w m a lv W L) (h : MF m a lv k) : k < w.heap.size := by
 rcases h with h | h | h
 · have := hm.mem.lt; omega
 · have := hm.words.lt; omega
 · exact (hm.log.lt k h).2
theorem refRF_lt {B : Nat} {w : World} {m : Nat} {A : Option Addr} {ca : Nat} {lv : Value} {W : List Int} {L : List Acc} (hm : RefAt B w m A ca lv W L) : ∀ k, RF m A lv k → k < w.heap.size := by
 rintro k (rfl | h | h)
 · exact hm.mem.lt
 · exact (hm.words.lt k ((own_any _ _ _ _ _).trans h)).2
 · exact (hm.log.lt k h).2
def rowO (T : TypeId) (size : Nat) (v : Value) (n : Nat) (xs : List Value) : Ass where
 At R w := w.ownsRow 0 T size v n xs ∧ ∀ k, R k ↔ v.ownBlock = some k
 st := by
  rintro R S w w' ⟨h, e⟩ hk hS
  exact ⟨ownsRow_keep h hk (fun k hkk => hS k ((e k).2 hkk)), e⟩
 lt := by
  rintro R w ⟨h, e⟩ k hk
  exact (h.lt k ((e k).1 hk)).2
theorem rowO_nil (T : TypeId) (size : Nat) (w : World) : Nw (rowO T size (.slice none 0 0) 0 []) w w :=
 ⟨fun _ => False, ⟨World.ownsRow_nil _ _ _ _, fun k => ⟨fun h => h.elim, fun h => by simp [Value.ownBlock] at h⟩⟩, Keep.refl _ _, fun _ h => h.elim⟩
theorem rowO_app {T : TypeId} {size n m c : Nat} {v : Value} {A : Option Addr} {xs ys : List Value} {R : Nat → Prop} {w w1 w' : World} (h : (rowO T size v n xs).At R w) (h1 : Keep0 w w1) (ho : w'.ownsRow 0 T size (.slice A m c) m ys) (hg : w1.grownBy w' v.ownBlock)
 (hs : ∀ k, (Value.slice A m c).ownBlock = some k → v.ownBlock = some k ∨ w1.heap.size ≤ k) : Tr (rowO T size (.slice A m c) m ys) R w w' :=
 ⟨fun k => (Value.slice A m c).ownBlock = some k, ⟨ho, fun _ => Iff.rfl⟩, Keep.grown h1.to hg (fun k _ e => (h.2 k).2 e), fun k hk => (hs k hk).imp (fun e => (h.2 k).2 e) (fun e => Nat.le_trans h1.size e)⟩
theorem rowO_cell {T : TypeId} {n c : Nat} {A : Option Addr} {xs : List Value} {R : Nat → Prop} {w : World} (h : (rowO T 1 (.slice A n c) n xs).At R w) {k : Nat} (hk : k < n) : ∃ b, A = some ⟨b, 0, none⟩ ∧ b < w.heap.size ∧ ∀ u, xs[k]? = some u → w.cell? ⟨b, k, none⟩ = some u := by
 obtain ⟨h, _⟩ := h
 rcases h.2 with ⟨_, h0⟩ | ⟨g, cap, cur, e, _, hg, _⟩
 · omega
 · cases e
   exact ⟨g, rfl, (Array.getElem?_eq_some_iff.1 hg).1, fun u hu => by have := h.cells (g := g) rfl k u hu; rw [addr_add] at this; exact this⟩
theorem blk_store {b : Nat} {T : TypeId} {cs : List Value} {R : Nat → Prop} {w : World} (h : (Ass.blk b T cs).At R w) (o : Nat) (v : Value) : Tr (Ass.blk b T (cs.set o v)) R w (w.setCell ⟨b, o, none⟩ v) :=
 ⟨R, ⟨h.1.set o v, h.2⟩, (Keep.refl _ _).set _ _ (fun _ => (h.2 b).2 rfl), fun _ h => Or.inl h⟩
def memO (B m : Nat) (W : List Int) (L : List Acc) : Ass where
 At R w := ∃ a lv, MemAt B w m a lv W L ∧ ∀ k, R k ↔ MF m a lv k
 st := by
  rintro R S w w' ⟨a, lv, h, e⟩ hk hS
  exact ⟨a, lv, h.keep hk (fun k hm => hS k ((e k).2 hm)), e⟩
 lt := by
  rintro R w ⟨a, lv, h, e⟩ k hk
  exact memMF_lt h ((e k).1 hk)
def refO (B m : Nat) (W : List Int) (L : List Acc) : Ass where
 At R w := ∃ A c lv, RefAt B w m A c lv W L ∧ ∀ k, R k ↔ RF m A lv k
 st := by
  rintro R S w w' ⟨A, c, lv, h, e⟩ hk hS
  exact ⟨A, c, lv, h.keep hk (fun k hm => hS k ((e k).2 hm)), e⟩
 lt := by
  rintro R w ⟨A, c, lv, h, e⟩ k hk
  exact refRF_lt h k ((e k).1 hk)
section
variable {B m : Nat} {W W' : List Int} {L L' : List Acc} {R : Nat → Prop} {w w' : World}
theorem refO_post {A : Option Addr} {lv : Value} (e : ∀ k, R k ↔ RF m A lv k) (h : RefPost B w m A lv W' L' w') : Tr (refO B m W' L') R w w' := by
 obtain ⟨A', c', lv', h1, h2, h3, h4⟩ := h
 refine ⟨RF m A' lv', ⟨A', c', lv', h1, fun k => Iff.rfl⟩, h2.mono ?_, ?_⟩
 · rintro k (h | h)
   · exact (e k).2 (Or.inl h)
   · exact (e k).2 (Or.inr (Or.inr h))
 · rintro k (h | h | h)
   · exact Or.inl ((e k).2 (Or.inl h))
   · exact (h3 k h).imp (fun h => (e k).2 (Or.inr (Or.inl h))) id
   · exact (h4 k h).imp (fun h => (e k).2 (Or.inr (Or.inr h))) id
theorem memO_Poke (i x : Int) (h : (memO B m W L).At R w) (h0 : 0 ≤ i) (hi : i < W.length) :
 Calls Tryz.prog 74 #[ptr m, i64 i, i64 x] w fun e w' => e = .returned (.tuple #[]) ∧ Tr (memO B m (W.set i.toNat x) L) R w w' := by
 obtain ⟨a, lv, hm, e⟩ := h
 refine (mem_Poke i x hm h0 hi).mono ?_
 rintro e' w' ⟨rfl, h1, h2⟩
 exact ⟨rfl, MF m a lv, ⟨a, lv, h1, fun k => Iff.rfl⟩, h2.mono (fun k h => (e k).2 (Or.inr (Or.inl h))), fun k h => Or.inl ((e k).2 h)⟩
theorem refO_Poke (i x : Int) (h : (refO B m W L).At R w) (h0 : 0 ≤ i) (hi : i < W.length) (hW : W.length ≤ 1000000) :
 Calls Tryz.prog 76 #[ptr m, i64 i, i64 x] w fun e w' => e = .returned (.tuple #[]) ∧ Tr (refO B m (W.set i.toNat x) L) R w w' := by
 obtain ⟨A, c, lv, hm, e⟩ := h
 refine (ref_PokeP i x hm h0 hi hW).mono ?_
 rintro e' w' ⟨rfl, h1⟩
 exact ⟨rfl, refO_post e h1⟩
theorem memO_mem (h : (memO B m W L).At R w) : ∃ a lv, Blk w m 106 [.slice (some ⟨a, 0, none⟩) W.length W.length, lv] := by
 obtain ⟨a, lv, hm, _⟩ := h
 exact ⟨a, lv, hm.mem⟩
end
end Go.Proofs.YthaceckccobgeaaGreat
