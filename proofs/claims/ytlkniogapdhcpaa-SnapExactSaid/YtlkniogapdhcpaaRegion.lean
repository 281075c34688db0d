/- A region that draws its order, walked once in the text's order: each operation is shown to give its value at any moment at which it may come up. -/
import Derived.Test.YtlkniogapdhcpaaBa
import Derived.RegionTactic
import Derived.Orders
namespace Go.Proofs.Ytlkniogapdhcpaa
open Go.RowKit
set_option linter.unusedVariables false
set_option linter.unusedSimpArgs false

def slotOf (a : Act) : Option Tmp → Value
  | some d => a.tmps.getD d undef
  | none => undef
/-- what is looked at by the text alone: no select; whom an operation waits for stands ahead of it; no slot is written twice; what one looks at and another one writes, it waits for -/
def regOk (ops : Array Oper) : Bool :=
  Region.noSelect ops && (List.range ops.size).all fun i => match ops[i]? with
    | none => true
    | some o => (o.after.all fun e => !Region.binds .any e || decide (e.on < i)) &&
      (List.range ops.size).all fun j => match ops[j]? with
        | none => true
        | some o' => match o'.dst with
          | none => true
          | some d => (i == j || o.dst != some d) && (!(o.looksAt ops).contains d || ((decide (j < i) && o.after.any fun e => e.on == j && Region.binds .any e) || (decide (i < j) && o'.after.any fun e => e.on == i && Region.binds .any e)))

def StepOk (P : Program) (ops : Array Oper) (o : Oper) (c : Act) (w : World) (v : Value) (R : World → Prop) : Prop :=
  if Region.wanted o (yielded ops c.tmps) = true then o.wp P c w (fun a' w' => a'.defers = c.defers ∧ slotOf a' o.dst = v ∧ R w') (fun _ _ _ => False) else v = undef ∧ R w

def upd (S : Nat → Bool) (i : Nat) : Nat → Bool := fun j => if j = i then true else S j
def depsOk (S : Nat → Bool) (o : Oper) : Prop := ∀ e ∈ o.after, Region.binds .any e = true → S e.on = true
/-- whom one waited for has been -/
def closedS (ops : Array Oper) (S : Nat → Bool) : Prop := ∀ (i : Nat) (o : Oper), ops[i]? = some o → S i = true → depsOk S o
inductive Oblig (P : Program) (ops : Array Oper) (WI : (Nat → Bool) → World → Prop) : List Oper → Nat → Act → List Value → Act → Prop
  | nil {i : Nat} {c : Act} : Oblig P ops WI [] i c [] c
  | cons {o : Oper} {os : List Oper} {i : Nat} {c cf : Act} {vs : List Value} (v : Value)
      (h : ∀ S w, WI S w → S i = false → depsOk S o → closedS ops S → StepOk P ops o c w v (WI (upd S i)))
      (rest : Oblig P ops WI os (i + 1) (c.put o.dst v) vs cf) : Oblig P ops WI (o :: os) i c (v :: vs) cf

theorem StepOk.intro {P : Program} {ops : Array Oper} {o : Oper} {c : Act} {w : World} {v : Value} {R : World → Prop}
    (h : ∀ K : Act → World → Prop, (∀ a' w', a'.defers = c.defers → slotOf a' o.dst = v → R w' → K a' w') → if Region.wanted o (yielded ops c.tmps) = true then o.wp P c w K (fun _ _ _ => False) else K (c.put o.dst undef) w) : StepOk P ops o c w v R := by
  have hh := h (fun a' w' => a'.defers = c.defers ∧ slotOf a' o.dst = v ∧ R w') (fun a' w' h1 h2 h3 => ⟨h1, h2, h3⟩)
  unfold StepOk
  by_cases hw : Region.wanted o (yielded ops c.tmps) = true
  · rw [if_pos hw] at hh ⊢
    exact hh
  · rw [if_neg hw] at hh ⊢
    refine ⟨?_, hh.2.2⟩
    rw [← hh.2.1]
    cases hd : o.dst with
    | none => rfl
    | some d =>
      by_cases hlt : d < c.tmps.size
      · simp [slotOf, Act.put, Array.getD, hlt]
      · simp [slotOf, Act.put, Array.getD, hlt]
theorem put_lit (l : List Value) (df : List Deferred) (d : Nat) (v : Value) : (Act.mk l.toArray df).put (some d) v = Act.mk (l.set d v).toArray df := by simp [Act.put]
theorem put_none (a : Act) (v : Value) : a.put none v = a := rfl

section
variable {P : Program} {ops : Array Oper} {Q : Exit → Act → World → Prop}
theorem regOk_edge (h : regOk ops = true) {i : Nat} {o : Oper} (ho : ops[i]? = some o) {e : Edge} (he : e ∈ o.after) (hb : Region.binds .any e = true) : e.on < i := by
  have hi : i < ops.size := (Array.getElem?_eq_some_iff.1 ho).1
  simp only [regOk, Bool.and_eq_true, List.all_eq_true, List.mem_range] at h
  have h1 := h.2 i hi
  rw [ho] at h1
  simp only [Bool.and_eq_true, Array.all_eq_true_iff_forall_mem] at h1
  have h2 := h1.1 e he
  simpa [hb] using h2
theorem regOk_pair (h : regOk ops = true) {i j : Nat} {o o' : Oper} (ho : ops[i]? = some o) (ho' : ops[j]? = some o') {d : Tmp} (hd : o'.dst = some d) :
    (i = j ∨ o.dst ≠ some d) ∧ (d ∈ o.looksAt ops → (j < i ∧ ∃ e ∈ o.after, e.on = j ∧ Region.binds .any e = true) ∨ (i < j ∧ ∃ e ∈ o'.after, e.on = i ∧ Region.binds .any e = true)) := by
  have hi : i < ops.size := (Array.getElem?_eq_some_iff.1 ho).1
  have hj : j < ops.size := (Array.getElem?_eq_some_iff.1 ho').1
  simp only [regOk, Bool.and_eq_true, List.all_eq_true, List.mem_range] at h
  have h1 := h.2 i hi
  rw [ho] at h1
  simp only [Bool.and_eq_true, List.all_eq_true, List.mem_range] at h1
  have h2 := h1.2 j hj
  rw [ho'] at h2
  simp only [hd, Bool.and_eq_true, Bool.or_eq_true, beq_iff_eq, bne_iff_ne, Bool.not_eq_true', decide_eq_true_eq] at h2
  refine ⟨h2.1, fun hm => ?_⟩
  rcases h2.2 with hc | ⟨hlt, ha⟩ | ⟨hlt, ha⟩
  · have : (o.looksAt ops).contains d = true := by simpa using hm
    rw [hc] at this
    cases this
  · obtain ⟨k, hk, h3⟩ := Array.any_eq_true.1 ha
    simp only [Bool.and_eq_true, beq_iff_eq] at h3
    exact Or.inl ⟨hlt, _, Array.getElem_mem hk, h3.1, h3.2⟩
  · obtain ⟨k, hk, h3⟩ := Array.any_eq_true.1 ha
    simp only [Bool.and_eq_true, beq_iff_eq] at h3
    exact Or.inr ⟨hlt, _, Array.getElem_mem hk, h3.1, h3.2⟩

theorem upon_move {o : Oper} {a c : Act} {w : World} {v : Value} {R : World → Prop} (hsz : a.tmps.size = c.tmps.size) (he : execOp a.eval o = execOp c.eval o)
    (h : o.wp P c w (fun a' w' => a'.defers = c.defers ∧ slotOf a' o.dst = v ∧ R w') (fun _ _ _ => False)) : o.wp P a w (fun a' w' => a' = a.put o.dst v ∧ R w') Q := by
  have key : ∀ v' w', ((c.put o.dst v').defers = c.defers ∧ slotOf (c.put o.dst v') o.dst = v ∧ R w') → a.put o.dst v' = a.put o.dst v ∧ R w' := by
    rintro v' w' ⟨_, hs, hr⟩
    refine ⟨?_, hr⟩
    cases hd : o.dst with
    | none => rfl
    | some d =>
      rw [hd] at hs
      by_cases hlt : d < c.tmps.size
      · have : v' = v := by simpa [slotOf, Act.put, hlt, Array.getD] using hs
        rw [this]
      · have e1 : ∀ u, a.tmps.setIfInBounds d u = a.tmps := fun u => Array.setIfInBounds_eq_of_size_le (hsz ▸ Nat.le_of_not_lt hlt)
        simp [Act.put, e1]
  unfold Oper.wp at *
  rw [he]
  generalize (execOp c.eval o).run P w = r at *
  cases r with
  | ok n w' =>
    cases n with
    | value v' => exact key _ _ h
    | skip => exact key _ _ h
    | defer d =>
      have h1 := h.1
      exfalso
      cases hdst : o.dst <;> simp [Act.put, hdst] at h1
    | enter f args =>
      refine Calls.mono h fun e w'' hh => ?_
      cases e with
      | returned u => exact key _ _ hh
      | panicked ch => exact hh.elim
      | outgrown => exact absurd hh (fun ⟨_, _, x⟩ => x)
    | row r args => exact Rows.mono h fun u w'' hh => key _ _ hh
    | _ => exact h.elim
  | halt x w' => cases x <;> first | exact h.elim | exact absurd h id

structure At (ops : Array Oper) (a0 : Act) (vs : List Value) (S : Nat → Bool) (a : Act) : Prop where
  df : a.defers = a0.defers
  sz : a.tmps.size = a0.tmps.size
  own : ∀ (i : Nat) (o : Oper) (d : Tmp), ops[i]? = some o → o.dst = some d → S i = true → d < a0.tmps.size → a.tmps[d]? = vs[i]?
  old : ∀ (t : Tmp), (∀ (i : Nat) (o : Oper), ops[i]? = some o → S i = true → o.dst ≠ some t) → a.tmps[t]? = a0.tmps[t]?

theorem At.start (a0 : Act) (vs : List Value) : At ops a0 vs (fun _ => false) a0 := ⟨rfl, rfl, fun _ _ _ _ _ h => (by cases h), fun _ _ => rfl⟩
theorem At.step (hok : regOk ops = true) {a0 a : Act} {vs : List Value} {S : Nat → Bool} (h : At ops a0 vs S a) {i : Nat} {o : Oper} (ho : ops[i]? = some o) {v : Value} (hv : vs[i]? = some v) : At ops a0 vs (upd S i) (a.put o.dst v) := by
  cases hd : o.dst with
  | none =>
    refine ⟨h.df, h.sz, fun j o' d hj hdj hS hlt => ?_, fun t ht => h.old t fun j o' hj hS => ht j o' hj (by unfold upd; split <;> simp_all)⟩
    by_cases e : j = i
    · subst e
      rw [ho] at hj
      cases hj
      rw [hd] at hdj
      cases hdj
    · exact h.own j o' d hj hdj (by simpa [upd, e] using hS) hlt
  | some d0 =>
    refine ⟨h.df, by simpa [Act.put] using h.sz, fun j o' d hj hdj hS hlt => ?_, fun t ht => ?_⟩
    · by_cases e : j = i
      · subst e
        rw [ho] at hj
        cases hj
        rw [hd] at hdj
        cases hdj
        have : d0 < a.tmps.size := by rw [h.sz]; exact hlt
        simp [Act.put, hv, this]
      · have hne : d0 ≠ d := by
          intro e'
          subst e'
          rcases (regOk_pair hok ho hj hdj).1 with e2 | e2
          · exact e e2.symm
          · exact e2 hd
        have := h.own j o' d hj hdj (by simpa [upd, e] using hS) hlt
        simp only [Act.put, Array.getElem?_setIfInBounds_ne hne, this]
    · have hne : d0 ≠ t := fun e' => ht i o ho (by simp [upd]) (by rw [hd, e'])
      simp only [Act.put, Array.getElem?_setIfInBounds_ne hne]
      exact h.old t fun j o' hj hS => ht j o' hj (by unfold upd; split <;> simp_all)

theorem At.same {a0 a c : Act} {vs : List Value} {S S' : Nat → Bool} (h : At ops a0 vs S a) (h' : At ops a0 vs S' c) {t : Tmp} (hlt : t < a0.tmps.size)
    (hS : ∀ (j : Nat) (o : Oper), ops[j]? = some o → o.dst = some t → S j = S' j) : a.tmps[t]? = c.tmps[t]? := by
  by_cases hex : ∃ (j : Nat) (o : Oper), ops[j]? = some o ∧ o.dst = some t ∧ S j = true
  · obtain ⟨j, o, hj, hd, hs⟩ := hex
    rw [h.own j o t hj hd hs hlt, h'.own j o t hj hd ((hS j o hj hd).symm.trans hs) hlt]
  · rw [h.old t fun i o hi hs hd => hex ⟨i, o, hi, hd, hs⟩, h'.old t fun i o hi hs hd => hex ⟨i, o, hi, hd, (hS i o hi hd).trans hs⟩]

theorem oblig_at (hok : regOk ops = true) {WI : (Nat → Bool) → World → Prop} {a0 cf : Act} : ∀ {os : List Oper} {i : Nat} {c : Act} {vs0 vs : List Value},
    Oblig P ops WI os i c vs cf → vs0.length = i → (∀ k, os[k]? = ops[i + k]?) → At ops a0 (vs0 ++ vs) (fun j => decide (j < i)) c →
    (∀ (j : Nat) (o : Oper), i ≤ j → ops[j]? = some o → ∃ (v : Value) (cj : Act), (vs0 ++ vs)[j]? = some v ∧ At ops a0 (vs0 ++ vs) (fun k => decide (k < j)) cj ∧ ∀ S w, WI S w → S j = false → depsOk S o → closedS ops S → StepOk P ops o cj w v (WI (upd S j))) ∧
    At ops a0 (vs0 ++ vs) (fun k => decide (k < ops.size)) cf := by
  intro os
  induction os with
  | nil =>
    intro i c vs0 vs h hl hos hat
    cases h
    have hn : ∀ k, ops[i + k]? = none := fun k => by simpa using (hos k).symm
    have hsz : ops.size ≤ i := by have := hn 0; simpa using this
    refine ⟨fun j o hij ho => ?_, ?_⟩
    · have := hn (j - i)
      rw [show i + (j - i) = j from by omega, ho] at this
      cases this
    · refine ⟨hat.df, hat.sz, fun j o d hj hd hS hlt => hat.own j o d hj hd (by have := (Array.getElem?_eq_some_iff.1 hj).1; simp; omega) hlt, fun t ht => hat.old t fun j o hj _ => ht j o hj (by have := (Array.getElem?_eq_some_iff.1 hj).1; simpa using this)⟩
  | cons o os ih =>
    intro i c vs0 vs h hl hos hat
    cases h with
    | @cons _ _ _ _ _ vs v h rest =>
      have ho : ops[i]? = some o := by simpa using (hos 0).symm
      have hv : (vs0 ++ v :: vs)[i]? = some v := by rw [List.getElem?_append_right (by omega), hl]; simp
      have hap : vs0 ++ v :: vs = (vs0 ++ [v]) ++ vs := by simp
      have hat' : At ops a0 (vs0 ++ v :: vs) (fun j => decide (j < i + 1)) (c.put o.dst v) := by
        have hs := At.step hok hat ho hv
        have he : upd (fun j => decide (j < i)) i = fun j => decide (j < i + 1) := by
          funext j
          unfold upd
          split
          · subst_vars; simp
          · simp only [decide_eq_decide]; omega
        rw [he] at hs
        exact hs
      rw [hap] at hat'
      have := ih rest (by simp [hl]) (fun k => by have := hos (k + 1); simpa [Nat.add_assoc, Nat.add_comm 1 k] using this) hat'
      rw [← hap] at this
      refine ⟨fun j oj hij hj => ?_, this.2⟩
      by_cases e : j = i
      · subst e
        rw [ho] at hj
        cases hj
        exact ⟨v, c, hv, hat, h⟩
      · exact this.1 j oj (by omega) hj

theorem act_ext {a c : Act} (h1 : a.defers = c.defers) (h2 : ∀ t : Nat, a.tmps[t]? = c.tmps[t]?) : a = c := by
  cases a
  cases c
  simp only at h1 h2
  subst h1
  congr 1
  exact Array.ext_getElem? h2

theorem any_region_text {WI : (Nat → Bool) → World → Prop} {a cf : Act} {w : World} {vs : List Value} (hm : P.follows .mixedOrders = true) (hok : regOk ops = true)
    (hob : Oblig P ops WI ops.toList 0 a vs cf) (h0 : WI (fun _ => false) w.drew) (hend : ∀ S w, WI S w → (∀ i, i < ops.size → S i = true) → Q .normal cf w) :
    wpAny P .any ops Q ops.size (Array.replicate ops.size false) a { w with drawn := w.drawn + 1 } := by
  have hob' := oblig_at (a0 := a) (vs0 := []) hok hob rfl (fun k => by simp) (by simpa using At.start a vs)
  simp only [List.nil_append] at hob'
  obtain ⟨hsteps, hfin⟩ := hob'
  have main : ∀ (fuel : Nat) (listed : Array Bool) (b : Act) (u : World), listed.size = ops.size → listed.toList.count false = fuel →
      (∀ (i : Nat) (o : Oper), ops[i]? = some o → listed.getD i false = true → depsOk (fun j => listed.getD j false) o) →
      WI (fun j => listed.getD j false) u → At ops a vs (fun j => listed.getD j false) b → wpAny P .any ops Q fuel listed b u := by
    intro fuel
    induction fuel with
    | zero =>
      intro listed b u hs hc hcl hwi hat
      have hall : ∀ i, i < ops.size → listed.getD i false = true := by
        intro i hi
        have : ¬ false ∈ listed.toList := List.count_eq_zero.1 hc
        have hi' : i < listed.size := by omega
        cases hv : listed.getD i false
        · exfalso
          apply this
          have : listed[i] = false := by simpa [Array.getD, hi'] using hv
          rw [← this]
          exact Array.getElem_mem_toList hi'
        · rfl
      refine ⟨?_, ?_⟩
      · apply List.eq_nil_iff_forall_not_mem.2
        intro j hj
        obtain ⟨h1, o, ho, _⟩ := mem_ready.1 hj
        have hj' := (Array.getElem?_eq_some_iff.1 ho).1
        have := hall j hj'
        simp [Array.getD, show j < listed.size from by omega] at this h1
        rw [this] at h1
        cases h1
      · have he : b = cf := act_ext (hat.df.trans hfin.df.symm) fun t => by
          by_cases hlt : t < a.tmps.size
          · exact hat.same hfin hlt fun j o hj _ => by have := (Array.getElem?_eq_some_iff.1 hj).1; exact (hall j this).trans (by simpa using this)
          · rw [Array.getElem?_eq_none (hat.sz ▸ Nat.le_of_not_lt hlt), Array.getElem?_eq_none (hfin.sz ▸ Nat.le_of_not_lt hlt)]
        rw [he]
        exact hend _ _ hwi hall
    | succ fuel ih =>
      intro listed b u hs hc hcl hwi hat
      refine ⟨fun hr => ?_, fun i hi => ?_⟩
      · exfalso
        have hall : ∀ n i, i < n → i < ops.size → listed.getD i false = true := by
          intro n
          induction n with
          | zero => intro i hi; omega
          | succ n ihn =>
            intro i hin hi
            cases hv : listed.getD i false
            · exfalso
              have ho : ops[i]? = some ops[i] := Array.getElem?_eq_getElem hi
              have hmem : i ∈ Region.ready .any ops listed := mem_ready.2 ⟨by simp [Array.getD, show i < listed.size from by omega] at hv ⊢; exact hv, ops[i], ho, fun e he hb => by
                have := regOk_edge hok ho he hb
                exact ihn e.on (by omega) (by omega)⟩
              rw [hr] at hmem
              cases hmem
            · rfl
        have hf : false ∈ listed.toList := by
          apply List.count_pos_iff.1
          omega
        obtain ⟨k, hk, hkv⟩ := List.getElem_of_mem hf
        have hk' : k < listed.size := by simpa using hk
        have := hall (k + 1) k (by omega) (by omega)
        have e1 : listed[k] = false := by simpa using hkv
        simp [Array.getD, hk', e1] at this
      · obtain ⟨h1, o, ho, hdeps⟩ := mem_ready.1 hi
        have hio := (Array.getElem?_eq_some_iff.1 ho).1
        have hil : i < listed.size := by omega
        have h1' : listed.getD i false = false := by simp [Array.getD, hil] at h1 ⊢; exact h1
        obtain ⟨v, cj, hv, hatc, hst⟩ := hsteps i o (Nat.zero_le _) ho
        have hstep := hst _ u hwi h1' (fun e he hb => hdeps e he hb) hcl
        have hsame : ∀ t, t ∈ o.looksAt ops → b.tmps[t]? = cj.tmps[t]? := by
          intro t ht
          by_cases hlt : t < a.tmps.size
          · refine hat.same hatc hlt fun j oj hj hd => ?_
            rcases (regOk_pair hok ho hj hd).2 ht with ⟨hji, e, he, heo, heb⟩ | ⟨hij, e, he, heo, heb⟩
            · have h5 : listed.getD j false = true := heo ▸ hdeps e he heb
              show listed.getD j false = decide (j < i)
              rw [h5, decide_eq_true hji]
            · show listed.getD j false = decide (j < i)
              rw [decide_eq_false (by omega)]
              cases h5 : listed.getD j false with
              | false => rfl
              | true =>
                have h6 : listed.getD e.on false = true := hcl j oj hj h5 e he heb
                rw [heo, h1'] at h6
                cases h6
          · rw [Array.getElem?_eq_none (hat.sz ▸ Nat.le_of_not_lt hlt), Array.getElem?_eq_none (hatc.sz ▸ Nat.le_of_not_lt hlt)]
        have hns := Region.noSelect_spec (by simp only [regOk, Bool.and_eq_true] at hok; exact hok.1) i o
        have hex : execOp b.eval o = execOp cj.eval o := execOp_congr o (fun cs bb => hns cs bb ho) fun x hx => by
          cases x with
          | tmp t =>
            have := hsame t (List.mem_append_left _ (List.mem_filterMap.2 ⟨.tmp t, by simpa using hx, rfl⟩))
            simp only [Act.eval, Array.getD_eq_getD_getElem?, this]
          | _ => rfl
        have hwa : Region.wanted o (yielded ops b.tmps) = Region.wanted o (yielded ops cj.tmps) := by
          unfold Region.wanted
          cases hg : o.guard with
          | none => rfl
          | some gw =>
            obtain ⟨g, want⟩ := gw
            have hy : yielded ops b.tmps g = yielded ops cj.tmps g := by
              unfold yielded
              cases ht : (ops[g]?).bind (·.dst) with
              | none => rfl
              | some t =>
                have := hsame t (List.mem_append_right _ (by simp [hg, ht]))
                simp [this]
            simp only [hy]
        have hset : (fun j => (listed.setIfInBounds i true).getD j false) = upd (fun j => listed.getD j false) i := by
          funext j
          unfold upd
          by_cases e : j = i
          · subst e; simp [Array.getD, hil]
          · rw [if_neg e, getD_set_ne _ (Ne.symm e)]
        have hnext : ∀ u', WI (upd (fun j => listed.getD j false) i) u' → wpAny P .any ops Q fuel (listed.setIfInBounds i true) (b.put o.dst v) u' := by
          intro u' hu'
          refine ih _ _ _ (by simpa using hs) ?_ ?_ ?_ ?_
          · have hv0 : listed.toList[i]'(by simpa using hil) = false := by simpa [Array.getD, hil] using h1'
            have e1 : (listed.setIfInBounds i true).toList = listed.toList.set i true := by simp [Array.toList_setIfInBounds]
            rw [e1, List.count_set (by simpa using hil), hc, hv0]
            simp
          · intro j oj hj hS e he hb
            have hS' : upd (fun j => listed.getD j false) i j = true := by rw [← hset]; exact hS
            have : upd (fun j => listed.getD j false) i e.on = true := by
              unfold upd
              split
              · rfl
              · by_cases ej : j = i
                · subst ej
                  rw [ho] at hj
                  cases hj
                  exact hdeps e he hb
                · exact hcl j oj hj (by simpa [upd, ej] using hS') e he hb
            exact (congrFun hset e.on).trans this
          · rw [hset]; exact hu'
          · rw [hset]; exact At.step hok hat ho hv
        unfold wpOp
        rw [ho]
        unfold StepOk at hstep
        show if Region.wanted o (yielded ops b.tmps) = true then _ else _
        by_cases hw : Region.wanted o (yielded ops b.tmps) = true
        · rw [if_pos hw]
          rw [if_pos (hwa ▸ hw)] at hstep
          exact Or.inl (Oper.wp_mono (fun a' w' ⟨e1, e2⟩ => e1 ▸ hnext _ e2) (upon_move (hat.sz.trans hatc.sz.symm) hex hstep))
        · rw [if_neg hw]
          rw [if_neg (hwa ▸ hw)] at hstep
          rw [← hstep.1]
          exact hnext _ hstep.2
  refine main _ _ _ _ (by simp) (by simp) (fun i o ho h => by simp [Array.getD] at h) ?_ ?_
  · have : (fun j => (Array.replicate ops.size false).getD j false) = fun _ => false := by funext j; simp [Array.getD]
    rw [this]
    exact h0
  · have : (fun j => (Array.replicate ops.size false).getD j false) = fun _ => false := by funext j; simp [Array.getD]
    rw [this]
    exact At.start a vs
theorem wp_region_text {id : Nat} {WI : (Nat → Bool) → World → Prop} {a cf : Act} {w : World} {vs : List Value} (hm : P.follows .mixedOrders = true) (hok : regOk ops = true)
    (hob : Oblig P ops WI ops.toList 0 a vs cf) (h0 : WI (fun _ => false) w.drew) (hend : ∀ S w, WI S w → (∀ i, i < ops.size → S i = true) → Q .normal cf w) :
    (Code.region id ops true).wp P Q a w := wp_region_any hm (any_region_text hm hok hob h0 hend)
end
end Go.Proofs.Ytlkniogapdhcpaa
