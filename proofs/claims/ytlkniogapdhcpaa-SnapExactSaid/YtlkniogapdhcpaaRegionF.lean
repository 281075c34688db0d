/- The same as wp_region_text, where an operation's value may hang on the order: such a value is free (a ghost), and the invariant tells what it is. -/
import Derived.Test.YtlkniogapdhcpaaRegion
namespace Go.Proofs.Ytlkniogapdhcpaa
open Go.RowKit
set_option linter.unusedVariables false
set_option linter.unusedSimpArgs false

def updv (g : Nat → Value) (i : Nat) (u : Value) : Nat → Value := fun j => if j = i then u else g j
theorem updv_same (g : Nat → Value) (i : Nat) (u : Value) : updv g i u i = u := by simp [updv]
theorem updv_ne {g : Nat → Value} {i j : Nat} {u : Value} (h : j ≠ i) : updv g i u j = g j := by simp [updv, h]
def StepG (P : Program) (ops : Array Oper) (o : Oper) (c : Act) (w : World) (R : Value → World → Prop) : Prop :=
  if Region.wanted o (yielded ops c.tmps) = true then o.wp P c w (fun a' w' => a'.defers = c.defers ∧ R (slotOf a' o.dst) w') (fun _ _ _ => False) else R undef w
theorem StepOk.toG {P : Program} {ops : Array Oper} {o : Oper} {c : Act} {w : World} {v : Value} {R : World → Prop} (h : StepOk P ops o c w v R) : StepG P ops o c w (fun v' w' => v' = v ∧ R w') := by
  unfold StepOk at h
  unfold StepG
  split
  · rename_i hw
    rw [if_pos hw] at h
    exact h
  · rename_i hw
    rw [if_neg hw] at h
    exact ⟨h.1.symm, h.2⟩
theorem StepG.intro {P : Program} {ops : Array Oper} {o : Oper} {c : Act} {w : World} {R : Value → World → Prop}
    (h : ∀ K : Act → World → Prop, (∀ a' w', a'.defers = c.defers → R (slotOf a' o.dst) w' → K a' w') → if Region.wanted o (yielded ops c.tmps) = true then o.wp P c w K (fun _ _ _ => False) else K (c.put o.dst undef) w) : StepG P ops o c w R := by
  have hh := h (fun a' w' => a'.defers = c.defers ∧ R (slotOf a' o.dst) w') (fun a' w' h1 h2 => ⟨h1, h2⟩)
  unfold StepG
  by_cases hw : Region.wanted o (yielded ops c.tmps) = true
  · rw [if_pos hw] at hh ⊢
    exact hh
  · rw [if_neg hw] at hh ⊢
    have e : slotOf (c.put o.dst undef) o.dst = undef := by
      cases hd : o.dst with
      | none => rfl
      | some d =>
        by_cases hlt : d < c.tmps.size
        · simp [slotOf, Act.put, Array.getD, hlt]
        · simp [slotOf, Act.put, Array.getD, hlt]
    rw [← e]
    exact hh.2

inductive ObligF (P : Program) (ops : Array Oper) (WI : (Nat → Bool) → (Nat → Value) → World → Prop) : List Oper → Nat → ((Nat → Value) → Act) → List (Option Value) → ((Nat → Value) → Act) → Prop
  | nil {i : Nat} {c : (Nat → Value) → Act} : ObligF P ops WI [] i c [] c
  | fixed {o : Oper} {os : List Oper} {i : Nat} {c cf : (Nat → Value) → Act} {vs : List (Option Value)} (v : Value)
      (h : ∀ S g w, WI S g w → S i = false → depsOk S o → closedS ops S → StepOk P ops o (c g) w v (WI (upd S i) g))
      (rest : ObligF P ops WI os (i + 1) (fun g => (c g).put o.dst v) vs cf) : ObligF P ops WI (o :: os) i c (some v :: vs) cf
  | free {o : Oper} {os : List Oper} {i : Nat} {c cf : (Nat → Value) → Act} {vs : List (Option Value)}
      (h : ∀ S g w, WI S g w → S i = false → depsOk S o → closedS ops S → StepG P ops o (c g) w (fun u w' => WI (upd S i) (updv g i u) w'))
      (rest : ObligF P ops WI os (i + 1) (fun g => (c g).put o.dst (g i)) vs cf) : ObligF P ops WI (o :: os) i c (none :: vs) cf

section
variable {P : Program} {ops : Array Oper} {Q : Exit → Act → World → Prop}
theorem upon_moveG {o : Oper} {a c : Act} {w : World} {R : Value → World → Prop} (hsz : a.tmps.size = c.tmps.size) (he : execOp a.eval o = execOp c.eval o)
    (h : o.wp P c w (fun a' w' => a'.defers = c.defers ∧ R (slotOf a' o.dst) w') (fun _ _ _ => False)) : o.wp P a w (fun a' w' => ∃ v, a' = a.put o.dst v ∧ R v w') Q := by
  have key : ∀ v' w', ((c.put o.dst v').defers = c.defers ∧ R (slotOf (c.put o.dst v') o.dst) w') → ∃ v, a.put o.dst v' = a.put o.dst v ∧ R v w' := by
    rintro v' w' ⟨_, hr⟩
    refine ⟨_, ?_, hr⟩
    cases hd : o.dst with
    | none => rfl
    | some d =>
      by_cases hlt : d < c.tmps.size
      · have : slotOf (c.put (some d) v') (some d) = v' := by simp [slotOf, Act.put, hlt, Array.getD]
        rw [this]
      · have e1 : ∀ u, a.tmps.setIfInBounds d u = a.tmps := fun u => Array.setIfInBounds_eq_of_size_le (hsz ▸ Nat.le_of_not_lt hlt)
        simp [Act.put, e1]
  unfold Oper.wp at *
  rw [he]
  generalize (execOp c.eval o).run P w = r at *
  cases r with
  | ok n w' =>
    cases n with
    | value v' => exact key _ _ h
    | skip => exact key _ _ h
    | defer d =>
      have h1 := h.1
      exfalso
      cases hdst : o.dst <;> simp [Act.put, hdst] at h1
    | enter f args =>
      refine Calls.mono h fun e w'' hh => ?_
      cases e with
      | returned u => exact key _ _ hh
      | panicked ch => exact hh.elim
      | outgrown => exact absurd hh (fun ⟨_, _, x⟩ => x)
    | row r args => exact Rows.mono h fun u w'' hh => key _ _ hh
    | _ => exact h.elim
  | halt x w' => cases x <;> first | exact h.elim | exact absurd h id

structure AtF (ops : Array Oper) (a0 : Act) (val : Nat → Value) (S : Nat → Bool) (a : Act) : Prop where
  df : a.defers = a0.defers
  sz : a.tmps.size = a0.tmps.size
  own : ∀ (i : Nat) (o : Oper) (d : Tmp), ops[i]? = some o → o.dst = some d → S i = true → d < a0.tmps.size → a.tmps[d]? = some (val i)
  old : ∀ (t : Tmp), (∀ (i : Nat) (o : Oper), ops[i]? = some o → S i = true → o.dst ≠ some t) → a.tmps[t]? = a0.tmps[t]?

theorem AtF.start (a0 : Act) (val : Nat → Value) : AtF ops a0 val (fun _ => false) a0 := ⟨rfl, rfl, fun _ _ _ _ _ h => (by cases h), fun _ _ => rfl⟩
theorem AtF.congr {a0 a : Act} {val val' : Nat → Value} {S : Nat → Bool} (h : AtF ops a0 val S a) (he : ∀ j, S j = true → val j = val' j) : AtF ops a0 val' S a :=
  ⟨h.df, h.sz, fun i o d hi hd hS hlt => by rw [← he i hS]; exact h.own i o d hi hd hS hlt, h.old⟩
theorem AtF.step (hok : regOk ops = true) {a0 a : Act} {val : Nat → Value} {S : Nat → Bool} (h : AtF ops a0 val S a) {i : Nat} {o : Oper} (ho : ops[i]? = some o) {v : Value} (hv : val i = v) : AtF ops a0 val (upd S i) (a.put o.dst v) := by
  cases hd : o.dst with
  | none =>
    refine ⟨h.df, h.sz, fun j o' d hj hdj hS hlt => ?_, fun t ht => h.old t fun j o' hj hS => ht j o' hj (by unfold upd; split <;> simp_all)⟩
    by_cases e : j = i
    · subst e
      rw [ho] at hj
      cases hj
      rw [hd] at hdj
      cases hdj
    · exact h.own j o' d hj hdj (by simpa [upd, e] using hS) hlt
  | some d0 =>
    refine ⟨h.df, by simpa [Act.put] using h.sz, fun j o' d hj hdj hS hlt => ?_, fun t ht => ?_⟩
    · by_cases e : j = i
      · subst e
        rw [ho] at hj
        cases hj
        rw [hd] at hdj
        cases hdj
        have : d0 < a.tmps.size := by rw [h.sz]; exact hlt
        simp [Act.put, hv, this]
      · have hne : d0 ≠ d := by
          intro e'
          subst e'
          rcases (regOk_pair hok ho hj hdj).1 with e2 | e2
          · exact e e2.symm
          · exact e2 hd
        have := h.own j o' d hj hdj (by simpa [upd, e] using hS) hlt
        simp only [Act.put, Array.getElem?_setIfInBounds_ne hne, this]
    · have hne : d0 ≠ t := fun e' => ht i o ho (by simp [upd]) (by rw [hd, e'])
      simp only [Act.put, Array.getElem?_setIfInBounds_ne hne]
      exact h.old t fun j o' hj hS => ht j o' hj (by unfold upd; split <;> simp_all)

theorem AtF.same {a0 a c : Act} {val : Nat → Value} {S S' : Nat → Bool} (h : AtF ops a0 val S a) (h' : AtF ops a0 val S' c) {t : Tmp} (hlt : t < a0.tmps.size)
    (hS : ∀ (j : Nat) (o : Oper), ops[j]? = some o → o.dst = some t → S j = S' j) : a.tmps[t]? = c.tmps[t]? := by
  by_cases hex : ∃ (j : Nat) (o : Oper), ops[j]? = some o ∧ o.dst = some t ∧ S j = true
  · obtain ⟨j, o, hj, hd, hs⟩ := hex
    rw [h.own j o t hj hd hs hlt, h'.own j o t hj hd ((hS j o hj hd).symm.trans hs) hlt]
  · rw [h.old t fun i o hi hs hd => hex ⟨i, o, hi, hd, hs⟩, h'.old t fun i o hi hs hd => hex ⟨i, o, hi, hd, (hS i o hi hd).trans hs⟩]

def valOf (vs : List (Option Value)) (g : Nat → Value) (i : Nat) : Value := match vs[i]? with
  | some (some v) => v
  | _ => g i

theorem valOf_fixed {vs : List (Option Value)} {i : Nat} {v : Value} (h : vs[i]? = some (some v)) (g : Nat → Value) : valOf vs g i = v := by simp [valOf, h]
theorem valOf_free {vs : List (Option Value)} {i : Nat} (h : vs[i]? = some none) (g : Nat → Value) : valOf vs g i = g i := by simp [valOf, h]
theorem valOf_upd {vs : List (Option Value)} {g : Nat → Value} {i j : Nat} {u : Value} (h : j ≠ i) : valOf vs (updv g i u) j = valOf vs g j := by
  unfold valOf
  split
  · rfl
  · exact updv_ne h

theorem obligF_at (hok : regOk ops = true) {WI : (Nat → Bool) → (Nat → Value) → World → Prop} {a0 : Act} {cf : (Nat → Value) → Act} : ∀ {os : List Oper} {i : Nat} {c : (Nat → Value) → Act} {vs0 vs : List (Option Value)},
    ObligF P ops WI os i c vs cf → vs0.length = i → (∀ k, os[k]? = ops[i + k]?) → (∀ g, AtF ops a0 (valOf (vs0 ++ vs) g) (fun j => decide (j < i)) (c g)) →
    (∀ (j : Nat) (o : Oper), i ≤ j → ops[j]? = some o → ∃ (cj : (Nat → Value) → Act), (∀ g, AtF ops a0 (valOf (vs0 ++ vs) g) (fun k => decide (k < j)) (cj g)) ∧
      ((∃ v, (vs0 ++ vs)[j]? = some (some v) ∧ ∀ S g w, WI S g w → S j = false → depsOk S o → closedS ops S → StepOk P ops o (cj g) w v (WI (upd S j) g)) ∨
       ((vs0 ++ vs)[j]? = some none ∧ ∀ S g w, WI S g w → S j = false → depsOk S o → closedS ops S → StepG P ops o (cj g) w (fun u w' => WI (upd S j) (updv g j u) w')))) ∧
    ∀ g, AtF ops a0 (valOf (vs0 ++ vs) g) (fun k => decide (k < ops.size)) (cf g) := by
  intro os
  induction os with
  | nil =>
    intro i c vs0 vs h hl hos hat
    cases h
    have hn : ∀ k, ops[i + k]? = none := fun k => by simpa using (hos k).symm
    have hsz : ops.size ≤ i := by have := hn 0; simpa using this
    refine ⟨fun j o hij ho => ?_, ?_⟩
    · have := hn (j - i)
      rw [show i + (j - i) = j from by omega, ho] at this
      cases this
    · exact fun g => ⟨(hat g).df, (hat g).sz, fun j o d hj hd hS hlt => (hat g).own j o d hj hd (by have := (Array.getElem?_eq_some_iff.1 hj).1; simp; omega) hlt, fun t ht => (hat g).old t fun j o hj _ => ht j o hj (by have := (Array.getElem?_eq_some_iff.1 hj).1; simpa using this)⟩
  | cons o os ih =>
    intro i c vs0 vs h hl hos hat
    have ho : ops[i]? = some o := by simpa using (hos 0).symm
    have he : upd (fun j => decide (j < i)) i = fun j => decide (j < i + 1) := by
      funext j
      unfold upd
      split
      · subst_vars; simp
      · simp only [decide_eq_decide]; omega
    cases h with
    | @fixed _ _ _ _ _ vs v h rest =>
      have hv : (vs0 ++ some v :: vs)[i]? = some (some v) := by rw [List.getElem?_append_right (by omega), hl]; simp
      have hap : vs0 ++ some v :: vs = (vs0 ++ [some v]) ++ vs := by simp
      have hat' : ∀ g, AtF ops a0 (valOf (vs0 ++ some v :: vs) g) (fun j => decide (j < i + 1)) ((c g).put o.dst v) := fun g => by
        have hs := AtF.step hok (hat g) ho (valOf_fixed hv g)
        rw [he] at hs
        exact hs
      rw [hap] at hat'
      have := ih rest (by simp [hl]) (fun k => by have := hos (k + 1); simpa [Nat.add_assoc, Nat.add_comm 1 k] using this) hat'
      rw [← hap] at this
      refine ⟨fun j oj hij hj => ?_, this.2⟩
      by_cases e : j = i
      · subst e
        rw [ho] at hj
        cases hj
        exact ⟨c, hat, Or.inl ⟨v, hv, h⟩⟩
      · exact this.1 j oj (by omega) hj
    | @free _ _ _ _ _ vs h rest =>
      have hv : (vs0 ++ none :: vs)[i]? = some none := by rw [List.getElem?_append_right (by omega), hl]; simp
      have hap : vs0 ++ none :: vs = (vs0 ++ [none]) ++ vs := by simp
      have hat' : ∀ g, AtF ops a0 (valOf (vs0 ++ none :: vs) g) (fun j => decide (j < i + 1)) ((c g).put o.dst (g i)) := fun g => by
        have hs := AtF.step hok (hat g) ho (valOf_free hv g)
        rw [he] at hs
        exact hs
      rw [hap] at hat'
      have := ih rest (by simp [hl]) (fun k => by have := hos (k + 1); simpa [Nat.add_assoc, Nat.add_comm 1 k] using this) hat'
      rw [← hap] at this
      refine ⟨fun j oj hij hj => ?_, this.2⟩
      by_cases e : j = i
      · subst e
        rw [ho] at hj
        cases hj
        exact ⟨c, hat, Or.inr ⟨hv, h⟩⟩
      · exact this.1 j oj (by omega) hj

theorem any_region_free {WI : (Nat → Bool) → (Nat → Value) → World → Prop} {a : Act} {cf : (Nat → Value) → Act} {w : World} {vs : List (Option Value)} (hm : P.follows .mixedOrders = true) (hok : regOk ops = true)
    (hob : ObligF P ops WI ops.toList 0 (fun _ => a) vs cf) (h0 : WI (fun _ => false) (fun _ => undef) w.drew) (hend : ∀ S g w, WI S g w → (∀ i, i < ops.size → S i = true) → Q .normal (cf g) w) :
    wpAny P .any ops Q ops.size (Array.replicate ops.size false) a { w with drawn := w.drawn + 1 } := by
  have hob' := obligF_at (a0 := a) (vs0 := []) hok hob rfl (fun k => by simp) (fun g => by simpa using AtF.start a (valOf vs g))
  simp only [List.nil_append] at hob'
  obtain ⟨hsteps, hfin⟩ := hob'
  have main : ∀ (fuel : Nat) (listed : Array Bool) (g : Nat → Value) (b : Act) (u : World), listed.size = ops.size → listed.toList.count false = fuel →
      (∀ (i : Nat) (o : Oper), ops[i]? = some o → listed.getD i false = true → depsOk (fun j => listed.getD j false) o) →
      WI (fun j => listed.getD j false) g u → AtF ops a (valOf vs g) (fun j => listed.getD j false) b → wpAny P .any ops Q fuel listed b u := by
    intro fuel
    induction fuel with
    | zero =>
      intro listed g b u hs hc hcl hwi hat
      have hall : ∀ i, i < ops.size → listed.getD i false = true := by
        intro i hi
        have : ¬ false ∈ listed.toList := List.count_eq_zero.1 hc
        have hi' : i < listed.size := by omega
        cases hv : listed.getD i false
        · exfalso
          apply this
          have : listed[i] = false := by simpa [Array.getD, hi'] using hv
          rw [← this]
          exact Array.getElem_mem_toList hi'
        · rfl
      refine ⟨?_, ?_⟩
      · apply List.eq_nil_iff_forall_not_mem.2
        intro j hj
        obtain ⟨h1, o, ho, _⟩ := mem_ready.1 hj
        have hj' := (Array.getElem?_eq_some_iff.1 ho).1
        have := hall j hj'
        simp [Array.getD, show j < listed.size from by omega] at this h1
        rw [this] at h1
        cases h1
      · have he : b = cf g := act_ext (hat.df.trans (hfin g).df.symm) fun t => by
          by_cases hlt : t < a.tmps.size
          · exact hat.same (hfin g) hlt fun j o hj _ => by have := (Array.getElem?_eq_some_iff.1 hj).1; exact (hall j this).trans (by simpa using this)
          · rw [Array.getElem?_eq_none (hat.sz ▸ Nat.le_of_not_lt hlt), Array.getElem?_eq_none ((hfin g).sz ▸ Nat.le_of_not_lt hlt)]
        rw [he]
        exact hend _ _ _ hwi hall
    | succ fuel ih =>
      intro listed g b u hs hc hcl hwi hat
      refine ⟨fun hr => ?_, fun i hi => ?_⟩
      · exfalso
        have hall : ∀ n i, i < n → i < ops.size → listed.getD i false = true := by
          intro n
          induction n with
          | zero => intro i hi; omega
          | succ n ihn =>
            intro i hin hi
            cases hv : listed.getD i false
            · exfalso
              have ho : ops[i]? = some ops[i] := Array.getElem?_eq_getElem hi
              have hmem : i ∈ Region.ready .any ops listed := mem_ready.2 ⟨by simp [Array.getD, show i < listed.size from by omega] at hv ⊢; exact hv, ops[i], ho, fun e he hb => by
                have := regOk_edge hok ho he hb
                exact ihn e.on (by omega) (by omega)⟩
              rw [hr] at hmem
              cases hmem
            · rfl
        have hf : false ∈ listed.toList := by
          apply List.count_pos_iff.1
          omega
        obtain ⟨k, hk, hkv⟩ := List.getElem_of_mem hf
        have hk' : k < listed.size := by simpa using hk
        have := hall (k + 1) k (by omega) (by omega)
        have e1 : listed[k] = false := by simpa using hkv
        simp [Array.getD, hk', e1] at this
      · obtain ⟨h1, o, ho, hdeps⟩ := mem_ready.1 hi
        have hio := (Array.getElem?_eq_some_iff.1 ho).1
        have hil : i < listed.size := by omega
        have h1' : listed.getD i false = false := by simp [Array.getD, hil] at h1 ⊢; exact h1
        obtain ⟨cj, hatc, hstp⟩ := hsteps i o (Nat.zero_le _) ho
        have hset : (fun j => (listed.setIfInBounds i true).getD j false) = upd (fun j => listed.getD j false) i := by
          funext j
          unfold upd
          by_cases e : j = i
          · subst e; simp [Array.getD, hil]
          · rw [if_neg e, getD_set_ne _ (Ne.symm e)]
        have hnext : ∀ g' v' u', (∀ j, listed.getD j false = true → valOf vs g j = valOf vs g' j) → valOf vs g' i = v' → WI (upd (fun j => listed.getD j false) i) g' u' → wpAny P .any ops Q fuel (listed.setIfInBounds i true) (b.put o.dst v') u' := by
          intro g' v' u' hag hvi hu'
          refine ih _ g' _ _ (by simpa using hs) ?_ ?_ ?_ ?_
          · have hv0 : listed.toList[i]'(by simpa using hil) = false := by simpa [Array.getD, hil] using h1'
            have e1 : (listed.setIfInBounds i true).toList = listed.toList.set i true := by simp [Array.toList_setIfInBounds]
            rw [e1, List.count_set (by simpa using hil), hc, hv0]
            simp
          · intro j oj hj hS e he hb
            have hS' : upd (fun j => listed.getD j false) i j = true := by rw [← hset]; exact hS
            have : upd (fun j => listed.getD j false) i e.on = true := by
              unfold upd
              split
              · rfl
              · by_cases ej : j = i
                · subst ej
                  rw [ho] at hj
                  cases hj
                  exact hdeps e he hb
                · exact hcl j oj hj (by simpa [upd, ej] using hS') e he hb
            exact (congrFun hset e.on).trans this
          · rw [hset]; exact hu'
          · rw [hset]; exact AtF.step hok (hat.congr hag) ho hvi
        have hstep : StepG P ops o (cj g) u (fun v' u' => wpAny P .any ops Q fuel (listed.setIfInBounds i true) (b.put o.dst v') u') := by
          have mono : ∀ {R R' : Value → World → Prop}, (∀ v w, R v w → R' v w) → StepG P ops o (cj g) u R → StepG P ops o (cj g) u R' := by
            intro R R' hR h
            unfold StepG at *
            split
            · rename_i hw
              rw [if_pos hw] at h
              exact Oper.wp_mono (fun a' w' ⟨h1, h2⟩ => ⟨h1, hR _ _ h2⟩) h
            · rename_i hw
              rw [if_neg hw] at h
              exact hR _ _ h
          rcases hstp with ⟨v, hv, hst⟩ | ⟨hv, hst⟩
          · refine mono ?_ (hst _ g u hwi h1' (fun e he hb => hdeps e he hb) hcl).toG
            rintro v' w' ⟨rfl, hw'⟩
            exact hnext g _ _ (fun _ _ => rfl) (valOf_fixed hv g) hw'
          · refine mono ?_ (hst _ g u hwi h1' (fun e he hb => hdeps e he hb) hcl)
            intro v' w' hw'
            exact hnext _ _ _ (fun j hj => (valOf_upd (fun e => by subst e; rw [h1'] at hj; cases hj)).symm) ((valOf_free hv _).trans (updv_same _ _ _)) hw'
        have hsame : ∀ t, t ∈ o.looksAt ops → b.tmps[t]? = (cj g).tmps[t]? := by
          intro t ht
          by_cases hlt : t < a.tmps.size
          · refine hat.same (hatc g) hlt fun j oj hj hd => ?_
            rcases (regOk_pair hok ho hj hd).2 ht with ⟨hji, e, he, heo, heb⟩ | ⟨hij, e, he, heo, heb⟩
            · have h5 : listed.getD j false = true := heo ▸ hdeps e he heb
              show listed.getD j false = decide (j < i)
              rw [h5, decide_eq_true hji]
            · show listed.getD j false = decide (j < i)
              rw [decide_eq_false (by omega)]
              cases h5 : listed.getD j false with
              | false => rfl
              | true =>
                have h6 : listed.getD e.on false = true := hcl j oj hj h5 e he heb
                rw [heo, h1'] at h6
                cases h6
          · rw [Array.getElem?_eq_none (hat.sz ▸ Nat.le_of_not_lt hlt), Array.getElem?_eq_none ((hatc g).sz ▸ Nat.le_of_not_lt hlt)]
        have hns := Region.noSelect_spec (by simp only [regOk, Bool.and_eq_true] at hok; exact hok.1) i o
        have hex : execOp b.eval o = execOp (cj g).eval o := execOp_congr o (fun cs bb => hns cs bb ho) fun x hx => by
          cases x with
          | tmp t =>
            have := hsame t (List.mem_append_left _ (List.mem_filterMap.2 ⟨.tmp t, by simpa using hx, rfl⟩))
            simp only [Act.eval, Array.getD_eq_getD_getElem?, this]
          | _ => rfl
        have hwa : Region.wanted o (yielded ops b.tmps) = Region.wanted o (yielded ops (cj g).tmps) := by
          unfold Region.wanted
          cases hg : o.guard with
          | none => rfl
          | some gw =>
            obtain ⟨gi, want⟩ := gw
            have hy : yielded ops b.tmps gi = yielded ops (cj g).tmps gi := by
              unfold yielded
              cases ht : (ops[gi]?).bind (·.dst) with
              | none => rfl
              | some t =>
                have := hsame t (List.mem_append_right _ (by simp [hg, ht]))
                simp [this]
            simp only [hy]
        unfold wpOp
        rw [ho]
        unfold StepG at hstep
        show if Region.wanted o (yielded ops b.tmps) = true then _ else _
        by_cases hw : Region.wanted o (yielded ops b.tmps) = true
        · rw [if_pos hw]
          rw [if_pos (hwa ▸ hw)] at hstep
          exact Or.inl (Oper.wp_mono (fun a' w' ⟨v, e1, e2⟩ => e1 ▸ e2) (upon_moveG (hat.sz.trans (hatc g).sz.symm) hex hstep))
        · rw [if_neg hw]
          rw [if_neg (hwa ▸ hw)] at hstep
          exact hstep
  refine main _ _ (fun _ => undef) _ _ (by simp) (by simp) (fun i o ho h => by simp [Array.getD] at h) ?_ ?_
  · have : (fun j => (Array.replicate ops.size false).getD j false) = fun _ => false := by funext j; simp [Array.getD]
    rw [this]
    exact h0
  · have : (fun j => (Array.replicate ops.size false).getD j false) = fun _ => false := by funext j; simp [Array.getD]
    rw [this]
    exact AtF.start a _
theorem wp_region_free {id : Nat} {WI : (Nat → Bool) → (Nat → Value) → World → Prop} {a : Act} {cf : (Nat → Value) → Act} {w : World} {vs : List (Option Value)} (hm : P.follows .mixedOrders = true) (hok : regOk ops = true)
    (hob : ObligF P ops WI ops.toList 0 (fun _ => a) vs cf) (h0 : WI (fun _ => false) (fun _ => undef) w.drew) (hend : ∀ S g w, WI S g w → (∀ i, i < ops.size → S i = true) → Q .normal (cf g) w) :
    (Code.region id ops true).wp P Q a w := wp_region_any hm (any_region_free hm hok hob h0 hend)
end
end Go.Proofs.Ytlkniogapdhcpaa
