/- SepAA: the texts Sep, SepPlay, in one. -/
import Derived.Test.YtlkniogapdhcpaaBa
import Derived.Test.YtlkniogapdhcpaaPlay
import Derived.Test.YtlkniogapdhcpaaRefOps
namespace Go.Proofs.Ytlkniogapdhcpaa
open Go.RowKit
set_option linter.unusedVariables false
set_option linter.unusedSimpArgs false
/-- a thing: what holds of a world and the thing's blocks -/
structure Ass where
  At : (Nat → Prop) → World → Prop
  st : ∀ {R S : Nat → Prop} {w w' : World}, At R w → Keep S w w' → (∀ k, R k → ¬ S k) → At R w'
  lt : ∀ {R : Nat → Prop} {w : World}, At R w → ∀ k, R k → k < w.heap.size
def Ass.emp : Ass := ⟨fun R _ => ∀ k, ¬ R k, fun h _ _ => h, fun h k hk => (h k hk).elim⟩
def Ass.star (p q : Ass) : Ass where
  At U w := ∃ R V, p.At R w ∧ q.At V w ∧ (∀ k, R k → ¬ V k) ∧ (∀ k, U k ↔ R k ∨ V k)
  st := by
    rintro U S w w' ⟨R, V, h1, h2, h3, h4⟩ hk hS
    exact ⟨R, V, p.st h1 hk (fun k h => hS k ((h4 k).2 (Or.inl h))), q.st h2 hk (fun k h => hS k ((h4 k).2 (Or.inr h))), h3, h4⟩
  lt := by
    rintro U w ⟨R, V, h1, h2, h3, h4⟩ k hk
    rcases (h4 k).1 hk with h | h
    · exact p.lt h1 k h
    · exact q.lt h2 k h
def Ass.ex {α : Type} (f : α → Ass) : Ass where
  At U w := ∃ x, (f x).At U w
  st := by rintro R S w w' ⟨x, h⟩ hk hS; exact ⟨x, (f x).st h hk hS⟩
  lt := by rintro R w ⟨x, h⟩ k hk; exact (f x).lt h k hk
def Ass.with_ (p : Ass) (φ : Prop) : Ass where
  At U w := p.At U w ∧ φ
  st := by rintro R S w w' ⟨h, x⟩ hk hS; exact ⟨p.st h hk hS, x⟩
  lt := by rintro R w ⟨h, x⟩ k hk; exact p.lt h k hk
/-- a block of cells -/
def Ass.blk (b : Nat) (T : TypeId) (cs : List Value) : Ass where
  At U w := Blk w b T cs ∧ ∀ k, U k ↔ k = b
  st := by rintro R S w w' ⟨h, e⟩ hk hS; exact ⟨hk.blk h (hS b ((e b).2 rfl)), e⟩
  lt := by rintro R w ⟨h, e⟩ k hk; rw [(e k).1 hk]; exact h.lt
def stars : List Ass → Ass
  | [] => Ass.emp
  | p :: l => p.star (stars l)
section
variable {p q r : Ass} {l l' : List Ass} {U R : Nat → Prop} {w w' w0 : World}
theorem Ass.at_iff (h : p.At U w) (e : U = R) : p.At R w := e ▸ h
theorem star_swap (h : (p.star (q.star r)).At U w) : (q.star (p.star r)).At U w := by
  obtain ⟨R, V, h1, ⟨R2, V2, h5, h6, h7, h8⟩, h3, h4⟩ := h
  refine ⟨R2, fun k => R k ∨ V2 k, h5, ⟨R, V2, h1, h6, fun k h hv => h3 k h ((h8 k).2 (Or.inr hv)), fun k => Iff.rfl⟩, ?_, ?_⟩
  · rintro k h (hr | hv)
    · exact h3 k hr ((h8 k).2 (Or.inl h))
    · exact h7 k h hv
  · intro k
    rw [h4, h8]
    constructor
    · rintro (h | h | h)
      · exact Or.inr (Or.inl h)
      · exact Or.inl h
      · exact Or.inr (Or.inr h)
    · rintro (h | h | h)
      · exact Or.inr (Or.inl h)
      · exact Or.inl h
      · exact Or.inr (Or.inr h)
theorem star_assoc (h : ((p.star q).star r).At U w) : (p.star (q.star r)).At U w := by
  obtain ⟨R, V, ⟨R2, V2, h5, h6, h7, h8⟩, h1, h3, h4⟩ := h
  refine ⟨R2, fun k => V2 k ∨ V k, h5, ⟨V2, V, h6, h1, fun k h hv => h3 k ((h8 k).2 (Or.inr h)) hv, fun k => Iff.rfl⟩, ?_, ?_⟩
  · rintro k h (hv | hv)
    · exact h7 k h hv
    · exact h3 k ((h8 k).2 (Or.inl h)) hv
  · intro k
    rw [h4, h8, or_assoc]
theorem star_assoc' (h : (p.star (q.star r)).At U w) : ((p.star q).star r).At U w := by
  obtain ⟨R, V, h1, ⟨R2, V2, h5, h6, h7, h8⟩, h3, h4⟩ := h
  refine ⟨fun k => R k ∨ R2 k, V2, ⟨R, R2, h1, h5, fun k h hv => h3 k h ((h8 k).2 (Or.inl hv)), fun k => Iff.rfl⟩, h6, ?_, ?_⟩
  · rintro k (h | h) hv
    · exact h3 k h ((h8 k).2 (Or.inr hv))
    · exact h7 k h hv
  · intro k
    rw [h4, h8, or_assoc]
theorem star_mono_r (h : (p.star q).At U w) (hq : ∀ V, q.At V w → r.At V w) : (p.star r).At U w := by
  obtain ⟨R, V, h1, h2, h3, h4⟩ := h
  exact ⟨R, V, h1, hq V h2, h3, h4⟩
theorem star_mono_l (h : (p.star q).At U w) (hq : ∀ V, p.At V w → r.At V w) : (r.star q).At U w := by
  obtain ⟨R, V, h1, h2, h3, h4⟩ := h
  exact ⟨R, V, hq R h1, h2, h3, h4⟩
theorem stars_perm (hp : l.Perm l') : ∀ U, (stars l).At U w → (stars l').At U w := by
  induction hp with
  | nil => exact fun U h => h
  | cons x _ ih => exact fun U h => star_mono_r h ih
  | swap x y l => exact fun U h => star_swap h
  | trans _ _ ih1 ih2 => exact fun U h => ih2 U (ih1 U h)
/-- what a call leaves of a thing whose blocks were R: another one, of blocks of R and new ones; nothing else is touched -/
def Tr (q : Ass) (R : Nat → Prop) (w w' : World) : Prop := ∃ R', q.At R' w' ∧ Keep R w w' ∧ ∀ k, R' k → R k ∨ w.heap.size ≤ k
/-- what a call makes -/
def Nw (q : Ass) (w w' : World) : Prop := ∃ R', q.At R' w' ∧ Keep0 w w' ∧ ∀ k, R' k → w.heap.size ≤ k
theorem Tr.refl (h : p.At R w) : Tr p R w w := ⟨R, h, Keep.refl _ _, fun _ h => Or.inl h⟩
theorem Tr.size {R : Nat → Prop} (h : Tr q R w w') : w.heap.size ≤ w'.heap.size := h.choose_spec.2.1.size
theorem Tr.mono {R : Nat → Prop} (h : Tr q R w w') (hq : ∀ V, q.At V w' → r.At V w') : Tr r R w w' := by
  obtain ⟨R', h1, h2, h3⟩ := h
  exact ⟨R', hq R' h1, h2, h3⟩
theorem Tr.trans {w'' : World} (h : Tr q R w w') (h2 : ∀ R', q.At R' w' → Tr r R' w' w'') : Tr r R w w'' := by
  obtain ⟨R1, a1, a2, a3⟩ := h
  obtain ⟨R2, b1, b2, b3⟩ := h2 R1 a1
  refine ⟨R2, b1, a2.trans b2 (fun k hk hr => (a3 k hr).elim id (fun h => by omega)), fun k hk => ?_⟩
  rcases b3 k hk with h | h
  · exact a3 k h
  · exact Or.inr (Nat.le_trans a2.size h)
theorem Tr.keep0 {w'' : World} (h : Tr q R w w') (hk : Keep0 w' w'') : Tr q R w w'' := by
  obtain ⟨R1, a1, a2, a3⟩ := h
  exact ⟨R1, q.st a1 hk (fun _ _ h => h), a2.trans hk (fun _ _ h => h.elim), a3⟩
theorem Tr.before {w'' : World} (hk : Keep0 w w') (h : Tr q R w' w'') : Tr q R w w'' := by
  obtain ⟨R1, a1, a2, a3⟩ := h
  exact ⟨R1, a1, hk.to.trans a2 (fun _ _ h => h), fun k h => (a3 k h).imp id (fun h => Nat.le_trans hk.size h)⟩
/-- a call that alters one of two things -/
theorem Tr.frame1 {V : Nat → Prop} (h2 : r.At V w) (h3 : ∀ k, R k → ¬ V k) (h4 : ∀ k, U k ↔ R k ∨ V k) (ht : Tr q R w w') : Tr (q.star r) U w w' := by
  obtain ⟨R1, a1, a2, a3⟩ := ht
  refine ⟨fun k => R1 k ∨ V k, ⟨R1, V, a1, r.st h2 a2 (fun k hv hr => h3 k hr hv), fun k hk hv => ?_, fun k => Iff.rfl⟩, a2.mono (fun k h => (h4 k).2 (Or.inl h)), fun k hk => ?_⟩
  · rcases a3 k hk with h | h
    · exact h3 k h hv
    · have := r.lt h2 k hv; omega
  · rcases hk with h | h
    · exact (a3 k h).imp (fun h => (h4 k).2 (Or.inl h)) id
    · exact Or.inl ((h4 k).2 (Or.inr h))
theorem Tr.frame (h : (p.star r).At U w) (ht : ∀ R, p.At R w → Tr q R w w') : Tr (q.star r) U w w' := by
  obtain ⟨R, V, h1, h2, h3, h4⟩ := h
  exact Tr.frame1 h2 h3 h4 (ht R h1)
theorem Nw.frame (h : r.At U w) (ht : Nw q w w') : Tr (q.star r) U w w' := by
  obtain ⟨R1, a1, a2, a3⟩ := ht
  refine ⟨fun k => R1 k ∨ U k, ⟨R1, U, a1, r.st h a2 (fun _ _ h => h), fun k hk hv => ?_, fun k => Iff.rfl⟩, a2.to, fun k hk => ?_⟩
  · have := a3 k hk; have := r.lt h k hv; omega
  · exact hk.elim (fun h => Or.inr (a3 k h)) Or.inl
/-- the things of a law's walk: behind its beginning w0 nothing older is touched -/
structure St (w0 : World) (l : List Ass) (w : World) : Prop where
  k : Keep0 w0 w
  at_ : ∃ U, (stars l).At U w ∧ ∀ k, U k → w0.heap.size ≤ k
theorem St.nil (h : Keep0 w0 w) : St w0 [] w := ⟨h, fun _ => False, fun k h => h, fun k h => h.elim⟩
theorem St.keep (h : St w0 l w) (hk : Keep0 w w') : St w0 l w' := by
  obtain ⟨h1, U, h2, h3⟩ := h
  exact ⟨Keep0.step h1 hk, U, (stars l).st h2 hk (fun _ _ h => h), h3⟩
theorem St.alloc (h : St w0 l w) (o : Obj) : St w0 l (w.alloc o) := h.keep ((Keep.refl _ _).alloc o)
theorem St.drew (h : St w0 l w) : St w0 l w.drew := h.keep (Keep.refl _ _).drew
theorem St.drewN (h : St w0 l w) (n : Nat) : St w0 l (w.drewN n) := h.keep ((Keep.refl _ _).drewN n)
theorem St.perm (h : St w0 l w) (hp : l.Perm l') : St w0 l' w := by
  obtain ⟨h1, U, h2, h3⟩ := h
  exact ⟨h1, U, stars_perm hp U h2, h3⟩
theorem pick_perm {α : Type _} : ∀ (l : List α) (i : Nat) (hi : i < l.length), l.Perm (l[i] :: l.eraseIdx i)
  | x :: l, 0, _ => List.Perm.refl _
  | x :: l, i + 1, hi => ((pick_perm l i (by simpa using hi)).cons x).trans (List.Perm.swap _ _ _)
theorem St.pick (h : St w0 l w) (i : Nat) (hi : i < l.length) : St w0 (l[i] :: l.eraseIdx i) w := h.perm (pick_perm l i hi)
theorem St.pair (h : St w0 (p :: q :: l) w) : St w0 (p.star q :: l) w := by
  obtain ⟨h1, U, h2, h3⟩ := h
  exact ⟨h1, U, star_assoc' h2, h3⟩
theorem St.part (h : St w0 (p.star q :: l) w) : St w0 (p :: q :: l) w := by
  obtain ⟨h1, U, h2, h3⟩ := h
  exact ⟨h1, U, star_assoc h2, h3⟩
theorem St.get (h : St w0 (p :: l) w) : ∃ R, p.At R w ∧ ∀ k, R k → w0.heap.size ≤ k := by
  obtain ⟨h1, U, ⟨R, V, h2, h4, h5, h6⟩, h3⟩ := h
  exact ⟨R, h2, fun k h => h3 k ((h6 k).2 (Or.inl h))⟩
theorem St.mono (h : St w0 (p :: l) w) (hq : ∀ V, p.At V w → (∀ k, V k → w0.heap.size ≤ k) → q.At V w) : St w0 (q :: l) w := by
  obtain ⟨h1, U, ⟨R, V, h4, h5, h6, h7⟩, h3⟩ := h
  exact ⟨h1, U, ⟨R, V, hq R h4 (fun k h => h3 k ((h7 k).2 (Or.inl h))), h5, h6, h7⟩, h3⟩
theorem St.drop (h : St w0 (p :: l) w) : St w0 l w := by
  obtain ⟨h1, U, ⟨R, V, h2, h4, h5, h6⟩, h3⟩ := h
  exact ⟨h1, V, h4, fun k h => h3 k ((h6 k).2 (Or.inr h))⟩
theorem St.one (h1 : Keep0 w0 w) (h : p.At R w) (hR : ∀ k, R k → w0.heap.size ≤ k) : St w0 [p] w :=
  ⟨h1, R, ⟨R, fun _ => False, h, fun k h => h, fun _ _ h => h, fun k => ⟨Or.inl, fun h => h.elim id False.elim⟩⟩, hR⟩
theorem Keep0.trTo {R : Nat → Prop} (h : Keep0 w0 w) (hk : Keep R w w') (hR : ∀ k, R k → w0.heap.size ≤ k) : Keep0 w0 w' :=
  h.trans hk (fun k hk hr => by have := hR k hr; omega)
theorem St.two {R V : Nat → Prop} (h1 : Keep0 w0 w) (h : p.At R w) (h2 : q.At V w) (hd : ∀ k, R k → ¬ V k) (hR : ∀ k, R k → w0.heap.size ≤ k) (hV : ∀ k, V k → w0.heap.size ≤ k) : St w0 [p, q] w :=
  St.part ⟨h1, fun k => R k ∨ V k, ⟨fun k => R k ∨ V k, fun _ => False, ⟨R, V, h, h2, hd, fun _ => Iff.rfl⟩, fun k h => h, fun _ _ h => h, fun k => ⟨Or.inl, fun h => h.elim id False.elim⟩⟩, fun k h => h.elim (hR k) (hV k)⟩
theorem Nw.blk {b : Nat} {T : TypeId} {cs : List Value} (hb : Blk w' b T cs) (hk : Keep0 w w') (hz : w.heap.size ≤ b) : Nw (Ass.blk b T cs) w w' := ⟨fun k => k = b, ⟨hb, fun k => Iff.rfl⟩, hk, fun k h => by subst h; exact hz⟩
theorem St.of_tr {U : Nat → Prop} (h1 : Keep0 w0 w) (h3 : ∀ k, U k → w0.heap.size ≤ k) (ht : Tr (stars l) U w w') : St w0 l w' := by
  obtain ⟨R, h4, h5, h6⟩ := ht
  exact ⟨h1.trTo h5 h3, R, h4, fun k hk => (h6 k hk).elim (h3 k) (fun h => Nat.le_trans h1.size h)⟩
theorem St.tr (h : St w0 (p :: l) w) (ht : ∀ R, p.At R w → Tr q R w w') : St w0 (q :: l) w' := by
  obtain ⟨h1, U, h2, h3⟩ := h
  exact St.of_tr (l := q :: l) h1 h3 (Tr.frame h2 ht)
theorem St.nw (h : St w0 l w) (ht : Nw q w w') : St w0 (q :: l) w' := by
  obtain ⟨h1, U, h2, h3⟩ := h
  exact St.of_tr (l := q :: l) h1 h3 (Nw.frame h2 ht)
/-- a call met by its contract -/
theorem St.callx {α : Type} {P : Program} {f : FuncId} {args : Array Value} {φ : α → Ending → Prop} {q : α → Ass} (h : St w0 (p :: l) w)
    (hc : ∀ R, p.At R w → (∀ k, R k → w0.heap.size ≤ k) → Calls P f args w fun e w' => ∃ x, φ x e ∧ Tr (q x) R w w') :
    Calls P f args w fun e w' => ∃ x, φ x e ∧ St w0 (q x :: l) w' := by
  obtain ⟨h1, U, ⟨R, V, h4, h5, h6, h7⟩, h3⟩ := h
  refine (hc R h4 (fun k hk => h3 k ((h7 k).2 (Or.inl hk)))).mono ?_
  rintro e w' ⟨x, hφ, ht⟩
  exact ⟨x, hφ, St.of_tr (l := q x :: l) h1 h3 (Tr.frame1 h5 h6 h7 ht)⟩
theorem St.call {P : Program} {f : FuncId} {args : Array Value} {φ : Ending → Prop} (h : St w0 (p :: l) w)
    (hc : ∀ R, p.At R w → (∀ k, R k → w0.heap.size ≤ k) → Calls P f args w fun e w' => φ e ∧ Tr q R w w') :
    Calls P f args w fun e w' => φ e ∧ St w0 (q :: l) w' := by
  refine (h.callx (α := Unit) (φ := fun _ => φ) (q := fun _ => q) (fun R hr hz => (hc R hr hz).mono (fun e w' h => ⟨(), h.1, h.2⟩))).mono ?_
  rintro e w' ⟨_, h1, h2⟩
  exact ⟨h1, h2⟩
/-- many things of one kind -/
def grp {α : Type} (f : α → Ass) (l : List α) : Ass := stars (l.map f)
theorem grp_open {α : Type} {f : α → Ass} {l : List α} {k : Nat} (hk : k < l.length) {U : Nat → Prop} (h : (grp f l).At U w) : ((f l[k]).star (grp f (l.eraseIdx k))).At U w :=
  stars_perm (l' := (l[k] :: l.eraseIdx k).map f) ((pick_perm l k hk).map f) U h
theorem set_perm {α : Type} : ∀ (l : List α) (k : Nat) (y : α), k < l.length → (y :: l.eraseIdx k).Perm (l.set k y)
  | x :: l, 0, y, _ => List.Perm.refl _
  | x :: l, k + 1, y, h => (List.Perm.swap _ _ _).trans ((set_perm l k y (by simpa using h)).cons x)
theorem grp_shut {α : Type} {f : α → Ass} {l : List α} {k : Nat} (hk : k < l.length) (y : α) {U : Nat → Prop} (h : ((f y).star (grp f (l.eraseIdx k))).At U w) : (grp f (l.set k y)).At U w :=
  stars_perm (l := (y :: l.eraseIdx k).map f) ((set_perm l k y hk).map f) U h
theorem grp_snoc {α : Type} {f : α → Ass} {l : List α} {y : α} {U : Nat → Prop} (h : ((f y).star (grp f l)).At U w) : (grp f (l ++ [y])).At U w :=
  stars_perm (l := (y :: l).map f) ((List.perm_append_singleton y l).symm.map f) U h
/-- a call of one of many things, beside another one -/
theorem St.callg {α : Type} {P : Program} {F : FuncId} {args : Array Value} {φ : Ending → Prop} {f : α → Ass} {ls : List α} {k : Nat} {y : α} (hk : k < ls.length) (h : St w0 (p :: grp f ls :: l) w)
    (hc : ∀ R, (p.star (f ls[k])).At R w → (∀ k, R k → w0.heap.size ≤ k) → Calls P F args w fun e w' => φ e ∧ Tr (q.star (f y)) R w w') :
    Calls P F args w fun e w' => φ e ∧ St w0 (q :: grp f (ls.set k y) :: l) w' := by
  have h1 : St w0 (p :: f ls[k] :: grp f (ls.eraseIdx k) :: l) w := by
    have h2 : St w0 ((f ls[k]).star (grp f (ls.eraseIdx k)) :: p :: l) w := St.mono (St.perm h (List.Perm.swap _ _ _)) (fun V hv _ => grp_open hk hv)
    exact St.perm (St.part h2) (((List.Perm.swap p (grp f (ls.eraseIdx k)) l).cons (f ls[k])).trans (List.Perm.swap p (f ls[k]) _))
  refine (St.call (q := q.star (f y)) (St.pair h1) hc).mono ?_
  rintro e w' ⟨h2, h3⟩
  refine ⟨h2, ?_⟩
  have h4 : St w0 (f y :: grp f (ls.eraseIdx k) :: q :: l) w' := St.perm (St.part h3) ((List.Perm.swap (f y) q _).trans ((List.Perm.swap (grp f (ls.eraseIdx k)) q l).cons (f y)))
  exact St.perm (St.mono (St.pair h4) (fun V hv _ => grp_shut hk y hv)) (List.Perm.swap _ _ _)
theorem St.snoc {α : Type} {f : α → Ass} {ls : List α} {y : α} (h : St w0 (f y :: grp f ls :: l) w) : St w0 (grp f (ls ++ [y]) :: l) w :=
  St.mono (St.pair h) (fun V hv _ => grp_snoc hv)
theorem St.grp0 {α : Type} (f : α → Ass) (h : St w0 l w) : St w0 (grp f [] :: l) w :=
  h.nw ⟨fun _ => False, fun _ h => h, Keep.refl _ _, fun _ h => h.elim⟩
theorem St.newx {α : Type} {P : Program} {f : FuncId} {args : Array Value} {φ : α → Ending → Prop} {q : α → Ass} (h : St w0 l w)
    (hc : Calls P f args w fun e w' => ∃ x, φ x e ∧ Nw (q x) w w') : Calls P f args w fun e w' => ∃ x, φ x e ∧ St w0 (q x :: l) w' := by
  refine hc.mono ?_
  rintro e w' ⟨x, hφ, ht⟩
  exact ⟨x, hφ, h.nw ht⟩
end
end Go.Proofs.Ytlkniogapdhcpaa


namespace Go.Proofs.Ytlkniogapdhcpaa
open Go.RowKit
set_option linter.unusedVariables false
set_option linter.unusedSimpArgs false
set_option maxRecDepth 100000
set_option maxHeartbeats 1000000 in
theorem play_SL {τ : Type} (Mt : τ → Ass) (Inv : Nat → τ → Prop) (stp : τ → τ × Bool) (pk : τ → Nat → Int → τ) (len : Nat) (F : FuncId) (xT : TypeId) (x m : Nat) (l : List Pk) (A0 : Option Addr) (kb ko c most : Nat) (w : World) (R : Nat → Prop) (t : τ)
    (hmost : most ≤ 1000000) (hl : l.length ≤ 1000000) (hlen : len ≤ 1000000) (ht : (Mt t).At R w) (hi : Inv 0 t) (hA0 : 0 < l.length → A0 = some ⟨kb, ko, none⟩ ∧ kb < w.heap.size ∧ ¬ R kb)
    (hcells : ∀ i (h : i < l.length), w.cell? ⟨kb, ko + i * 3, none⟩ = some (i64 l[i].at_) ∧ w.cell? ⟨kb, ko + i * 3 + 1, none⟩ = some (i64 l[i].w) ∧ w.cell? ⟨kb, ko + i * 3 + 2, none⟩ = some (i64 l[i].x))
    (hmem : ∀ n R w t, (Mt t).At R w → Inv n t → ∃ a lv, Blk w m 84 [.slice (some ⟨a, 0, none⟩) len len, lv])
    (hipk : ∀ n t i x, (∃ p ∈ l, p.w.toNat = i ∧ p.x = x) → i < len → Inv n t → Inv n (pk t i x)) (hist : ∀ n t, n < most → Inv n t → Inv (n + 1) (stp t).1)
    (hpoke : ∀ n R w t (i x : Int), (∃ p ∈ l, p.w = i ∧ p.x = x) → (Mt t).At R w → Inv n t → 0 ≤ i → i < len → Calls Try.prog 30 #[ptr m, i64 i, i64 x] w fun e w' => e = .returned (.tuple #[]) ∧ Tr (Mt (pk t i.toNat x)) R w w')
    (hstep : ∀ n R w t, n < most → (Mt t).At R w → Inv n t → Calls Try.prog F #[ptr x, ptr m] w fun e w' => e = .returned (.bool (stp t).2) ∧ Tr (Mt (stp t).1) R w w')
    (hmeth : ∀ w, (method 235 xT (ptr x) "Step").run Try.prog w = .ok (F, ptr x) w) (hF : ∀ (args : Array Value) (w : World), (callFunc F args).run Try.prog w = .ok (.enter F args) w) :
    Calls Try.prog 14 #[ptr m, .iface xT (ptr x), .slice A0 l.length c, i64 most] w fun e w' =>
      e = .returned (.tuple #[i64 (playF stp pk len l most 0 t).2.1, .bool (playF stp pk len l most 0 t).2.2]) ∧ Tr (Mt (playF stp pk len l most 0 t).1) R w w' ∧ ∃ n, Inv n (playF stp pk len l most 0 t).1 := by
  have hs0 : (fun (n : Nat) (w1 : World) (t1 : τ) => ∃ R1, (Mt t1).At R1 w1 ∧ Inv n t1 ∧ (∀ k, R1 k → R k ∨ w.heap.size ≤ k) ∧ w.heap.size ≤ w1.heap.size) 0 w t := ⟨R, ht, hi, fun _ h => Or.inl h, Nat.le_refl _⟩
  refine (mem_Play (fun n w1 t1 => ∃ R1, (Mt t1).At R1 w1 ∧ Inv n t1 ∧ (∀ k, R1 k → R k ∨ w.heap.size ≤ k) ∧ w.heap.size ≤ w1.heap.size) stp pk len F xT x m R w.heap.size l A0 kb ko c most w t hmost hl (Nat.le_refl _) hA0 hcells ?_ ?_ ?_ ?_ hmeth hF hs0).mono ?_
  · rintro n w1 t1 ⟨R1, h1, h2, _⟩
    exact hmem n R1 w1 t1 h1 h2
  · rintro n w1 w2 t1 ⟨R1, h1, h2, h3, h4⟩ hk
    exact ⟨R1, (Mt t1).st h1 hk (fun _ _ h => h), h2, h3, Nat.le_trans h4 hk.size⟩
  · rintro n w1 t1 i y hp ⟨R1, h1, h2, h3, h4⟩ hi0 hi1
    refine (hpoke n R1 w1 t1 i y hp h1 h2 hi0 hi1).mono ?_
    rintro e w2 ⟨rfl, R2, g1, g2, g3⟩
    exact ⟨rfl, ⟨R2, g1, hipk n t1 i.toNat y (by obtain ⟨p, hp1, rfl, rfl⟩ := hp; exact ⟨p, hp1, rfl, rfl⟩) (by omega) h2, fun k hk => (g3 k hk).elim (h3 k) (fun h => Or.inr (Nat.le_trans h4 h)), Nat.le_trans h4 g2.size⟩, g2.mono h3⟩
  · rintro n w1 t1 hn ⟨R1, h1, h2, h3, h4⟩
    refine (hstep n R1 w1 t1 hn h1 h2).mono ?_
    rintro e w2 ⟨rfl, R2, g1, g2, g3⟩
    exact ⟨rfl, ⟨R2, g1, hist n t1 hn h2, fun k hk => (g3 k hk).elim (h3 k) (fun h => Or.inr (Nat.le_trans h4 h)), Nat.le_trans h4 g2.size⟩, g2.mono h3⟩
  · rintro e w2 ⟨rfl, ⟨n, R2, g1, g2, g3, g4⟩, hk⟩
    exact ⟨rfl, ⟨R2, g1, hk.trans (Keep.refl (fun _ => False) _) (fun _ _ h => h.elim) |> fun h => ⟨h.os, h.tape, h.output, h.size, fun k hk hn => h.block k hk (fun h => h.elim hn (fun h => by omega))⟩, g3⟩, n, g2⟩
theorem memMF_lt {B : Nat} {w : World} {m a k : Nat} {lv : Value} {W : List Int} {L : List Acc} (hm : MemAt B w m a lv W L) (h : MF m a lv k) : k < w.heap.size := by
  rcases h with h | h | h
  · have := hm.mem.lt; omega
  · have := hm.words.lt; omega
  · exact (hm.log.lt k h).2
theorem refRF_lt {B : Nat} {w : World} {m : Nat} {A : Option Addr} {ca : Nat} {lv : Value} {W : List Int} {L : List Acc} (hm : RefAt B w m A ca lv W L) : ∀ k, RF m A lv k → k < w.heap.size := by
  rintro k (rfl | h | h)
  · exact hm.mem.lt
  · exact (hm.words.lt k ((own_any _ _ _ _ _).trans h)).2
  · exact (hm.log.lt k h).2
/-- a row of the call's own: its slice v, n elements, their cells xs -/
def rowO (T : TypeId) (size : Nat) (v : Value) (n : Nat) (xs : List Value) : Ass where
  At R w := w.ownsRow 0 T size v n xs ∧ ∀ k, R k ↔ v.ownBlock = some k
  st := by
    rintro R S w w' ⟨h, e⟩ hk hS
    exact ⟨ownsRow_keep h hk (fun k hkk => hS k ((e k).2 hkk)), e⟩
  lt := by
    rintro R w ⟨h, e⟩ k hk
    exact (h.lt k ((e k).1 hk)).2
theorem rowO_nil (T : TypeId) (size : Nat) (w : World) : Nw (rowO T size (.slice none 0 0) 0 []) w w :=
  ⟨fun _ => False, ⟨World.ownsRow_nil _ _ _ _, fun k => ⟨fun h => h.elim, fun h => by simp [Value.ownBlock] at h⟩⟩, Keep.refl _ _, fun _ h => h.elim⟩
/-- what an append leaves -/
theorem rowO_app {T : TypeId} {size n m c : Nat} {v : Value} {A : Option Addr} {xs ys : List Value} {R : Nat → Prop} {w w1 w' : World} (h : (rowO T size v n xs).At R w) (h1 : Keep0 w w1) (ho : w'.ownsRow 0 T size (.slice A m c) m ys) (hg : w1.grownBy w' v.ownBlock)
    (hs : ∀ k, (Value.slice A m c).ownBlock = some k → v.ownBlock = some k ∨ w1.heap.size ≤ k) : Tr (rowO T size (.slice A m c) m ys) R w w' :=
  ⟨fun k => (Value.slice A m c).ownBlock = some k, ⟨ho, fun _ => Iff.rfl⟩, Keep.grown h1.to hg (fun k _ e => (h.2 k).2 e), fun k hk => (hs k hk).imp (fun e => (h.2 k).2 e) (fun e => Nat.le_trans h1.size e)⟩
theorem rowO_cell {T : TypeId} {n c : Nat} {A : Option Addr} {xs : List Value} {R : Nat → Prop} {w : World} (h : (rowO T 1 (.slice A n c) n xs).At R w) {k : Nat} (hk : k < n) : ∃ b, A = some ⟨b, 0, none⟩ ∧ b < w.heap.size ∧ ∀ u, xs[k]? = some u → w.cell? ⟨b, k, none⟩ = some u := by
  obtain ⟨h, _⟩ := h
  rcases h.2 with ⟨_, h0⟩ | ⟨g, cap, cur, e, _, hg, _⟩
  · omega
  · cases e
    exact ⟨g, rfl, (Array.getElem?_eq_some_iff.1 hg).1, fun u hu => by have := h.cells (g := g) rfl k u hu; rw [addr_add] at this; exact this⟩
theorem blk_store {b : Nat} {T : TypeId} {cs : List Value} {R : Nat → Prop} {w : World} (h : (Ass.blk b T cs).At R w) (o : Nat) (v : Value) : Tr (Ass.blk b T (cs.set o v)) R w (w.setCell ⟨b, o, none⟩ v) :=
  ⟨R, ⟨h.1.set o v, h.2⟩, (Keep.refl _ _).set _ _ (fun _ => (h.2 b).2 rfl), fun _ h => Or.inl h⟩
/-- a Mem -/
def memO (B m : Nat) (W : List Int) (L : List Acc) : Ass where
  At R w := ∃ a lv, MemAt B w m a lv W L ∧ ∀ k, R k ↔ MF m a lv k
  st := by
    rintro R S w w' ⟨a, lv, h, e⟩ hk hS
    exact ⟨a, lv, h.keep hk (fun k hm => hS k ((e k).2 hm)), e⟩
  lt := by
    rintro R w ⟨a, lv, h, e⟩ k hk
    exact memMF_lt h ((e k).1 hk)
/-- the document's Mem -/
def refO (B m : Nat) (W : List Int) (L : List Acc) : Ass where
  At R w := ∃ A c lv, RefAt B w m A c lv W L ∧ ∀ k, R k ↔ RF m A lv k
  st := by
    rintro R S w w' ⟨A, c, lv, h, e⟩ hk hS
    exact ⟨A, c, lv, h.keep hk (fun k hm => hS k ((e k).2 hm)), e⟩
  lt := by
    rintro R w ⟨A, c, lv, h, e⟩ k hk
    exact refRF_lt h k ((e k).1 hk)
section
variable {B m : Nat} {W W' : List Int} {L L' : List Acc} {R : Nat → Prop} {w w' : World}
theorem memO_post {a : Nat} {lv : Value} (e : ∀ k, R k ↔ MF m a lv k) (h : MemPost B w m a lv W' L' w') : Tr (memO B m W' L') R w w' := by
  obtain ⟨lv', h1, h2, h3⟩ := h
  refine ⟨MF m a lv', ⟨a, lv', h1, fun k => Iff.rfl⟩, h2.mono (fun k h => (e k).2 h), ?_⟩
  rintro k (h | h | h)
  · exact Or.inl ((e k).2 (Or.inl h))
  · exact Or.inl ((e k).2 (Or.inr (Or.inl h)))
  · exact (h3 k h).imp (fun h => (e k).2 (Or.inr (Or.inr h))) id
theorem refO_post {A : Option Addr} {lv : Value} (e : ∀ k, R k ↔ RF m A lv k) (h : RefPost B w m A lv W' L' w') : Tr (refO B m W' L') R w w' := by
  obtain ⟨A', c', lv', h1, h2, h3, h4⟩ := h
  refine ⟨RF m A' lv', ⟨A', c', lv', h1, fun k => Iff.rfl⟩, h2.mono ?_, ?_⟩
  · rintro k (h | h)
    · exact (e k).2 (Or.inl h)
    · exact (e k).2 (Or.inr (Or.inr h))
  · rintro k (h | h | h)
    · exact Or.inl ((e k).2 (Or.inl h))
    · exact (h3 k h).imp (fun h => (e k).2 (Or.inr (Or.inl h))) id
    · exact (h4 k h).imp (fun h => (e k).2 (Or.inr (Or.inr h))) id
theorem memO_Poke (i x : Int) (h : (memO B m W L).At R w) (h0 : 0 ≤ i) (hi : i < W.length) :
    Calls Try.prog 30 #[ptr m, i64 i, i64 x] w fun e w' => e = .returned (.tuple #[]) ∧ Tr (memO B m (W.set i.toNat x) L) R w w' := by
  obtain ⟨a, lv, hm, e⟩ := h
  refine (mem_Poke i x hm h0 hi).mono ?_
  rintro e' w' ⟨rfl, h1, h2⟩
  exact ⟨rfl, MF m a lv, ⟨a, lv, h1, fun k => Iff.rfl⟩, h2.mono (fun k h => (e k).2 (Or.inr (Or.inl h))), fun k h => Or.inl ((e k).2 h)⟩
theorem refO_Poke (i x : Int) (h : (refO B m W L).At R w) (h0 : 0 ≤ i) (hi : i < W.length) (hW : W.length ≤ 1000000) :
    Calls Try.prog 37 #[ptr m, i64 i, i64 x] w fun e w' => e = .returned (.tuple #[]) ∧ Tr (refO B m (W.set i.toNat x) L) R w w' := by
  obtain ⟨A, c, lv, hm, e⟩ := h
  refine (ref_PokeP i x hm h0 hi hW).mono ?_
  rintro e' w' ⟨rfl, h1⟩
  exact ⟨rfl, refO_post e h1⟩
theorem memO_mem (h : (memO B m W L).At R w) : ∃ a lv, Blk w m 84 [.slice (some ⟨a, 0, none⟩) W.length W.length, lv] := by
  obtain ⟨a, lv, hm, _⟩ := h
  exact ⟨a, lv, hm.mem⟩
theorem refO_mem (h : (refO B m W L).At R w) : ∃ A c lv, Blk w m 53 [.slice A W.length c, lv] := by
  obtain ⟨A, c, lv, hm, _⟩ := h
  exact ⟨A, c, lv, hm.mem⟩
end
end Go.Proofs.Ytlkniogapdhcpaa
