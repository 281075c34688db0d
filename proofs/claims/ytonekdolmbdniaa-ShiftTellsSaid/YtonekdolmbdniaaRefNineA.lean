/- RefNineA: the texts RefShift, RefShiftB, RefShiftC, in one. -/
import Derived.Test.YtonekdolmbdniaaShiftP
import Derived.Test.YtonekdolmbdniaaRefOps
import Derived.Test.YtonekdolmbdniaaRefFive
import Derived.Test.YtonekdolmbdniaaRegion
import Derived.Test.YtonekdolmbdniaaShiftT
namespace Go.Proofs.Ytonekdolmbdniaa
open Go.RowKit
set_option linter.unusedVariables false
set_option linter.unusedSimpArgs false
set_option maxRecDepth 100000

/-- its cells -/
def rsc (kd : Nat) (t s g l r k : Int) (PA : Option Addr) (pn pc : Nat) (LA : Option Addr) (ln lc : Nat) (nd n : Int) (x : SS) : List Value :=
  [i64 ((kd : Int) + 1), i64 t, i64 s, i64 g, i64 l, i64 r, i64 k, .slice PA pn pc, .slice LA ln lc, i64 nd, i64 n, i64 (if x.st = 3 then 9 else (x.st : Int)), i64 x.saw, i64 (aeN kd x.bad), i64 0, .bool false, i64 (anN kd nd x.bad)]
section
variable {B : Nat} {w : World} {m y : Nat} {A : Option Addr} {ca : Nat} {lv : Value} {kd li av : Nat} {t s g l r k nd n X : Int} {PA : Option Addr} {pn pc : Nat} {LA : Option Addr} {ln lc : Nat}
theorem rs_far {W : List Int} {L : List Acc} {cs : List Value} (hm : RefAt B w m A ca lv W L) (hy : Blk w y 94 cs) : ¬ (y = m ∨ lv.ownBlock = some y) := by
  rintro (h | h)
  · exact hy.ne hm.mem (by decide) h
  · exact ownBlock_ne hm.log hy (by decide) h.symm
theorem rs_far2 {W : List Int} {L : List Acc} {cs : List Value} (hm : RefAt B w m A ca lv W L) (hy : Blk w y 94 cs) (b : Nat) (hb : RF m A lv b) : b ≠ y := by
  rintro rfl
  rcases hb with h | h | h
  · exact hy.ne hm.mem (by decide) h
  · exact ownBlock_ne hm.words hy (by decide) ((own_any _ _ _ _ _).trans h).symm
  · exact ownBlock_ne hm.log hy (by decide) h.symm
/-- what a step leaves -/
def RShP (B : Nat) (w : World) (m : Nat) (A : Option Addr) (lv : Value) (y kd : Nat) (t s g l r k : Int) (PA : Option Addr) (pn pc : Nat) (LA : Option Addr) (ln lc : Nat) (nd n : Int) (x : SS) (e : Ending) (w' : World) : Prop :=
  e = .returned (.bool (decide (x.st = 3))) ∧ ∃ A' c' lv', RefAt B w' m A' c' lv' x.W x.L ∧ Blk w' y 94 (rsc kd t s g l r k PA pn pc LA ln lc nd n x) ∧ Keep (fun b => (b = m ∨ lv.ownBlock = some b) ∨ b = y) w w' ∧
    (∀ b, (Value.slice A' 0 0).ownBlock = some b → (Value.slice A 0 0).ownBlock = some b ∨ w.heap.size ≤ b) ∧ (∀ b, lv'.ownBlock = some b → lv.ownBlock = some b ∨ w.heap.size ≤ b)
theorem rshP_of {w1 w2 : World} {A1 : Option Addr} {c1 : Nat} {lv1 : Value} {x' : SS} {cs : List Value} (hm : RefAt B w1 m A1 c1 lv1 x'.W x'.L) (hk : Keep (fun b => b = m ∨ lv.ownBlock = some b) w w1)
    (ha : ∀ b, (Value.slice A1 0 0).ownBlock = some b → (Value.slice A 0 0).ownBlock = some b ∨ w.heap.size ≤ b) (hl : ∀ b, lv1.ownBlock = some b → lv.ownBlock = some b ∨ w.heap.size ≤ b)
    (hy1 : Blk w1 y 94 cs) (hk2 : Keep (fun b => b = y) w1 w2) (hy2 : Blk w2 y 94 (rsc kd t s g l r k PA pn pc LA ln lc nd n x')) :
    RShP B w m A lv y kd t s g l r k PA pn pc LA ln lc nd n x' (.returned (.bool (decide (x'.st = 3)))) w2 :=
  ⟨rfl, A1, c1, lv1, hm.keep hk2 (fun b h => rs_far2 hm hy1 b h), hy2, (hk.mono (fun _ h => Or.inl h)).trans (hk2.mono (fun _ h => Or.inr h)) (fun _ _ h => h), ha, hl⟩
theorem rshP_of2 {w1 w2 : World} {A1 : Option Addr} {c1 : Nat} {lv1 : Value} {x' : SS} {cs : List Value} (hm : RefAt B w1 m A1 c1 lv1 x'.W x'.L) (hk : Keep (fun b => (b = m ∨ lv.ownBlock = some b) ∨ b = y) w w1)
    (ha : ∀ b, (Value.slice A1 0 0).ownBlock = some b → (Value.slice A 0 0).ownBlock = some b ∨ w.heap.size ≤ b) (hl : ∀ b, lv1.ownBlock = some b → lv.ownBlock = some b ∨ w.heap.size ≤ b)
    (hy1 : Blk w1 y 94 cs) (hk2 : Keep (fun b => b = y) w1 w2) (hy2 : Blk w2 y 94 (rsc kd t s g l r k PA pn pc LA ln lc nd n x')) :
    RShP B w m A lv y kd t s g l r k PA pn pc LA ln lc nd n x' (.returned (.bool (decide (x'.st = 3)))) w2 :=
  ⟨rfl, A1, c1, lv1, hm.keep hk2 (fun b h => rs_far2 hm hy1 b h), hy2, hk.trans (hk2.mono (fun _ h => Or.inr h)) (fun _ _ h => h), ha, hl⟩
theorem ref_LoadN' {W : List Int} {L : List Acc} (i : Nat) (hm : RefAt B w m A ca lv W L) (hi : i < W.length) (hL : L.length ≤ 1000000000) :
    Calls Try.prog 67 #[ptr m, i64 i] w fun e w' => e = .returned (i64 (rd W i)) ∧ RefPost B w m A lv W (L ++ [⟨1, i, rd W i, 0, false⟩]) w' := by
  have h := ref_Load (i : Int) hm (by omega) (by omega) hL
  rwa [Int.toNat_natCast] at h
theorem ref_CasN' {W : List Int} {L : List Acc} (i : Nat) (old x : Int) (hm : RefAt B w m A ca lv W L) (hi : i < W.length) (hW : W.length ≤ 1000000) (hL : L.length ≤ 1000000000) :
    Calls Try.prog 68 #[ptr m, i64 i, i64 old, i64 x] w fun e w' => e = .returned (.bool (rd W i == old)) ∧ RefPost B w m A lv (casW W i old x) (L ++ [⟨3, i, old, x, rd W i == old⟩]) w' := by
  have h := ref_Cas (i : Int) old x hm (by omega) (by omega) hW hL
  rwa [Int.toNat_natCast] at h

set_option maxHeartbeats 4000000 in
theorem rsh_step02 {saw : Int} {W : List Int} {L : List Acc} (hm : RefAt B w m A ca lv W L) (hy : Blk w y 94 [i64 1, i64 t, i64 s, i64 g, i64 l, i64 r, i64 k, .slice PA pn pc, .slice LA ln lc, i64 nd, i64 n, i64 (2), i64 (saw), i64 (0), i64 0, .bool false, i64 (0)]) (h1 : li < W.length) (h2 : av < W.length) (hne : li ≠ av) (hn : 1 ≤ n ∧ n ≤ 1048576) (hb1 : -4398046511104 ≤ rd W li ∧ rd W li ≤ 4398046511104) (hb2 : -4398046511104 ≤ rd W av ∧ rd W av ≤ 4398046511104) (hb3 : -4398046511104 ≤ saw ∧ saw ≤ 4398046511104) (hL : L.length ≤ 1000000000) (hW : W.length ≤ 1000000) (hs0 : 1 ≤ s) (hs1 : s ≤ 8) (hv0 : 0 ≤ nd) (hv1 : nd ≤ 1000) (hli : (li : Int) = nd * (6 + 2 * s)) (hav : (av : Int) = nd * (6 + 2 * s) + 1) :
    Calls Try.prog 53 #[ptr y, ptr m] w (RShP B w m A lv y 0 t s g l r k PA pn pc LA ln lc nd n (sNext 0 li av n ⟨W, L, 2, saw, false⟩)) := by
  have HY0 : Hid (Blk w y 94 [i64 1, i64 t, i64 s, i64 g, i64 l, i64 r, i64 k, .slice PA pn pc, .slice LA ln lc, i64 nd, i64 n, i64 (2), i64 (saw), i64 (0), i64 0, .bool false, i64 (0)]) := hid hy
  have qy0 := HY0.out.k17
  have HM0 := hid hm
  have HLI := hid hli
  have HAV := hid hav
  have HK0 : Hid (Keep0 w w) := hid (Keep.refl _ _)
  obtain ⟨w0, hw0⟩ : ∃ w0 : World, w0 = w := ⟨_, rfl⟩
  have ym : IntKind.i64.wrap (-n) = -n := IntWalk.i64_in _ (by omega)
  have ya : IntKind.i64.wrap (saw + n) = saw + n := IntWalk.i64_in _ (by omega)
  have yb : IntKind.i64.wrap (saw + -n) = saw + -n := IntWalk.i64_in _ (by omega)
  have yc : IntKind.i64.wrap (saw - n) = saw + -n := by rw [Int.sub_eq_add_neg]; exact yb
  have yd : IntKind.i64.wrap (rd W li + n) = rd W li + n := IntWalk.i64_in _ (by omega)
  clear hy hm hli hav
  have e : sNext 0 li av n ⟨W, L, 2, saw, false⟩ = ⟨W.set av (rd W av + n), L ++ [⟨2, av, n, rd W av + n, false⟩], 3, saw, false⟩ := by simp [sNext, sBy]
  rw [e]
  clear e
  go_enter Try.func53, Try.ntmps53
  go_wp2_with fail
  apply wp_region_text (WI := fun S wx => Keep0 w wx) (by kernel_rfl) (by kernel_rfl)
  case hob =>
    apply Oblig.cons
    case h =>
      intro S w1 hwi hSi hd hcl
      apply StepOk.intro
      intro K hK
      have qy3 := (hwi.blk HY0.out (fun h => h)).k17
      go_simp
      apply hK
      · rfl
      · conv => (lhs; whnf)
      · exact hwi
    simp only [put_lit, put_none, List.set_cons_succ, List.set_cons_zero]
    apply Oblig.cons
    case h =>
      intro S w1 hwi hSi hd hcl
      apply StepOk.intro
      intro K hK
      have qy3 := (hwi.blk HY0.out (fun h => h)).k17
      go_simp
      apply hK
      · rfl
      · conv => (lhs; whnf)
      · exact hwi
    simp only [put_lit, put_none, List.set_cons_succ, List.set_cons_zero]
    apply Oblig.cons
    case h =>
      intro S w1 hwi hSi hd hcl
      apply StepOk.intro
      intro K hK
      have qy3 := (hwi.blk HY0.out (fun h => h)).k17
      go_simp
      apply hK
      · rfl
      · conv => (lhs; whnf)
      · exact hwi
    simp only [put_lit, put_none, List.set_cons_succ, List.set_cons_zero]
    apply Oblig.cons
    case h =>
      intro S w1 hwi hSi hd hcl
      apply StepOk.intro
      intro K hK
      have qy3 := (hwi.blk HY0.out (fun h => h)).k17
      go_simp
      apply hK
      · rfl
      · conv => (lhs; whnf)
      · exact hwi
    simp only [put_lit, put_none, List.set_cons_succ, List.set_cons_zero]
    apply Oblig.cons
    case h =>
      intro S w1 hwi hSi hd hcl
      apply StepOk.intro
      intro K hK
      have qy3 := (hwi.blk HY0.out (fun h => h)).k17
      go_simp
      apply hK
      · rfl
      · conv => (lhs; whnf)
      · exact hwi
    simp only [put_lit, put_none, List.set_cons_succ, List.set_cons_zero]
    apply Oblig.cons
    case h =>
      intro S w1 hwi hSi hd hcl
      apply StepOk.intro
      intro K hK
      have qy3 := (hwi.blk HY0.out (fun h => h)).k17
      go_simp
      apply hK
      · rfl
      · conv => (lhs; whnf)
      · exact hwi
    simp only [put_lit, put_none, List.set_cons_succ, List.set_cons_zero]
    apply Oblig.cons
    case h =>
      intro S w1 hwi hSi hd hcl
      apply StepOk.intro
      intro K hK
      have qy3 := (hwi.blk HY0.out (fun h => h)).k17
      go_simp
      apply hK
      · rfl
      · conv => (lhs; whnf)
      · exact hwi
    simp only [put_lit, put_none, List.set_cons_succ, List.set_cons_zero]
    apply Oblig.cons
    case h =>
      intro S w1 hwi hSi hd hcl
      apply StepOk.intro
      intro K hK
      have qy3 := (hwi.blk HY0.out (fun h => h)).k17
      go_simp
      apply hK
      · rfl
      · conv => (lhs; whnf)
      · exact hwi
    simp only [put_lit, put_none, List.set_cons_succ, List.set_cons_zero]
    apply Oblig.cons
    case h =>
      intro S w1 hwi hSi hd hcl
      apply StepOk.intro
      intro K hK
      have qy3 := (hwi.blk HY0.out (fun h => h)).k17
      go_simp
      refine (show Calls Try.prog 16 #[.agg #[i64 t, i64 s, i64 g, i64 l, i64 r, i64 k, .slice PA pn pc, .slice LA ln lc], i64 nd] w1 (Ret (i64 li) w1) from by have h := ref_Limit t s g l r k PA pn pc LA ln lc nd w1 hs0 hs1 hv0 hv1; rw [← HLI.out] at h; exact h).mono ?_
      rintro e w2 ⟨rfl, hk⟩
      apply hK
      · rfl
      · conv => (lhs; whnf)
      · exact Keep0.step hwi hk
    simp only [put_lit, put_none, List.set_cons_succ, List.set_cons_zero]
    apply Oblig.cons
    case h =>
      intro S w1 hwi hSi hd hcl
      apply StepOk.intro
      intro K hK
      have qy3 := (hwi.blk HY0.out (fun h => h)).k17
      go_simp
      apply hK
      · rfl
      · conv => (lhs; whnf)
      · exact hwi
    simp only [put_lit, put_none, List.set_cons_succ, List.set_cons_zero]
    exact Oblig.nil
  case h0 =>
    exact (Keep.refl _ _).drew
  case hend =>
    intro S wx hwi hall
    obtain ⟨w1, rfl⟩ : ∃ w1 : World, w1 = wx := ⟨_, rfl⟩
    have HY1 := hid (hwi.blk HY0.out (fun h => h))
    have HM1 := hid (HM0.out.keep hwi (fun _ _ h => h))
    have HK1 : Hid (Keep0 w w1) := hid (HK0.out.trans hwi (fun _ _ h => h))
    have qy1 := HY1.out.k17
    clear hwi hall HY0 HM0 HK0 qy0
    go_wp2_with fail
    apply wp_region_text (WI := fun S wx => Keep0 w1 wx) (by kernel_rfl) (by kernel_rfl)
    case hob =>
      apply Oblig.cons
      case h =>
        intro S w1 hwi hSi hd hcl
        apply StepOk.intro
        intro K hK
        have qy3 := (hwi.blk HY1.out (fun h => h)).k17
        go_simp
        apply hK
        · rfl
        · conv => (lhs; whnf)
        · exact hwi
      simp only [put_lit, put_none, List.set_cons_succ, List.set_cons_zero]
      apply Oblig.cons
      case h =>
        intro S w1 hwi hSi hd hcl
        apply StepOk.intro
        intro K hK
        have qy3 := (hwi.blk HY1.out (fun h => h)).k17
        go_simp
        apply hK
        · rfl
        · conv => (lhs; whnf)
        · exact hwi
      simp only [put_lit, put_none, List.set_cons_succ, List.set_cons_zero]
      apply Oblig.cons
      case h =>
        intro S w1 hwi hSi hd hcl
        apply StepOk.intro
        intro K hK
        have qy3 := (hwi.blk HY1.out (fun h => h)).k17
        go_simp
        apply hK
        · rfl
        · conv => (lhs; whnf)
        · exact hwi
      simp only [put_lit, put_none, List.set_cons_succ, List.set_cons_zero]
      apply Oblig.cons
      case h =>
        intro S w1 hwi hSi hd hcl
        apply StepOk.intro
        intro K hK
        have qy3 := (hwi.blk HY1.out (fun h => h)).k17
        go_simp
        apply hK
        · rfl
        · conv => (lhs; whnf)
        · exact hwi
      simp only [put_lit, put_none, List.set_cons_succ, List.set_cons_zero]
      apply Oblig.cons
      case h =>
        intro S w1 hwi hSi hd hcl
        apply StepOk.intro
        intro K hK
        have qy3 := (hwi.blk HY1.out (fun h => h)).k17
        go_simp
        apply hK
        · rfl
        · conv => (lhs; whnf)
        · exact hwi
      simp only [put_lit, put_none, List.set_cons_succ, List.set_cons_zero]
      apply Oblig.cons
      case h =>
        intro S w1 hwi hSi hd hcl
        apply StepOk.intro
        intro K hK
        have qy3 := (hwi.blk HY1.out (fun h => h)).k17
        go_simp
        apply hK
        · rfl
        · conv => (lhs; whnf)
        · exact hwi
      simp only [put_lit, put_none, List.set_cons_succ, List.set_cons_zero]
      apply Oblig.cons
      case h =>
        intro S w1 hwi hSi hd hcl
        apply StepOk.intro
        intro K hK
        have qy3 := (hwi.blk HY1.out (fun h => h)).k17
        go_simp
        apply hK
        · rfl
        · conv => (lhs; whnf)
        · exact hwi
      simp only [put_lit, put_none, List.set_cons_succ, List.set_cons_zero]
      apply Oblig.cons
      case h =>
        intro S w1 hwi hSi hd hcl
        apply StepOk.intro
        intro K hK
        have qy3 := (hwi.blk HY1.out (fun h => h)).k17
        go_simp
        apply hK
        · rfl
        · conv => (lhs; whnf)
        · exact hwi
      simp only [put_lit, put_none, List.set_cons_succ, List.set_cons_zero]
      apply Oblig.cons
      case h =>
        intro S w1 hwi hSi hd hcl
        apply StepOk.intro
        intro K hK
        have qy3 := (hwi.blk HY1.out (fun h => h)).k17
        go_simp
        refine (show Calls Try.prog 17 #[.agg #[i64 t, i64 s, i64 g, i64 l, i64 r, i64 k, .slice PA pn pc, .slice LA ln lc], i64 nd] w1 (Ret (i64 av) w1) from by have h := ref_Avail t s g l r k PA pn pc LA ln lc nd w1 hs0 hs1 hv0 hv1; rw [← HAV.out] at h; exact h).mono ?_
        rintro e w2 ⟨rfl, hk⟩
        apply hK
        · rfl
        · conv => (lhs; whnf)
        · exact Keep0.step hwi hk
      simp only [put_lit, put_none, List.set_cons_succ, List.set_cons_zero]
      apply Oblig.cons
      case h =>
        intro S w1 hwi hSi hd hcl
        apply StepOk.intro
        intro K hK
        have qy3 := (hwi.blk HY1.out (fun h => h)).k17
        go_simp
        apply hK
        · rfl
        · conv => (lhs; whnf)
        · exact hwi
      simp only [put_lit, put_none, List.set_cons_succ, List.set_cons_zero]
      exact Oblig.nil
    case h0 =>
      exact (Keep.refl _ _).drew
    case hend =>
      intro S wx hwi hall
      obtain ⟨w2, rfl⟩ : ∃ w2 : World, w2 = wx := ⟨_, rfl⟩
      have HY2 := hid (hwi.blk HY1.out (fun h => h))
      have HM2 := hid (HM1.out.keep hwi (fun _ _ h => h))
      have HK2 : Hid (Keep0 w w2) := hid (HK1.out.trans hwi (fun _ _ h => h))
      have qy2 := HY2.out.k17
      clear hwi hall HY1 HM1 HK1 qy1
      go_wp2_with fail
      obtain ⟨w9, rfl⟩ : ∃ w9 : World, w9 = w2 := ⟨_, rfl⟩
      have HY9 := hid HY2.out
      have HM9 := hid HM2.out
      have HK9 := hid HK2.out
      clear HY2 HM2 HK2
      refine Calls.mono (show Calls Try.prog 69 #[ptr m, i64 av, i64 (n)] w9 (fun e w' => e = .returned (i64 (rd W av + n)) ∧ RefPost B w9 m A lv (W.set av (rd W av + n)) (L ++ [⟨2, av, n, rd W av + n, false⟩]) w') from by have h := ref_Add (av : Int) (n) HM9.out (by omega) (by omega) hW hL; rw [Int.toNat_natCast, wrap64_in _ (by omega)] at h; exact h) ?_
      rintro e w10 ⟨rfl, A3, c3, lv3, hm, hk, ha, hl⟩
      have hb := hk.blk HY9.out (rs_far HM9.out HY9.out)
      have HK10 := hid ((HK9.out.mono (T := fun b => b = m ∨ lv.ownBlock = some b) (fun _ h => h.elim)).trans hk (fun _ _ h => h))
      have HM10 := hid hm
      have HY10 := hid hb
      have HA10 := hid (fun b h => (ha b h).imp id (fun h => Nat.le_trans HK9.out.size h))
      have HL10 := hid (fun b h => (hl b h).imp id (fun h => Nat.le_trans HK9.out.size h))
      have qy10 := hb.k17
      clear hm hk ha hl hb HK9 HM9 HY9 qy2
      go_wp2_with fail
      go_ret
      exact rshP_of (x' := _) HM10.out HK10.out HA10.out HL10.out HY10.out ((Keep.refl (fun k => k = y) w10).trans (((Keep.refl (fun k => k = y) w10)).set ⟨y, 11, none⟩ _ (fun _ => rfl)) (fun _ _ h => h)) ((HY10.out).set 11 _)
set_option maxHeartbeats 4000000 in
theorem rsh_step12 {saw : Int} {W : List Int} {L : List Acc} (hm : RefAt B w m A ca lv W L) (hy : Blk w y 94 [i64 2, i64 t, i64 s, i64 g, i64 l, i64 r, i64 k, .slice PA pn pc, .slice LA ln lc, i64 nd, i64 n, i64 (2), i64 (saw), i64 (0), i64 0, .bool false, i64 (0)]) (h1 : li < W.length) (h2 : av < W.length) (hne : li ≠ av) (hn : 1 ≤ n ∧ n ≤ 1048576) (hb1 : -4398046511104 ≤ rd W li ∧ rd W li ≤ 4398046511104) (hb2 : -4398046511104 ≤ rd W av ∧ rd W av ≤ 4398046511104) (hb3 : -4398046511104 ≤ saw ∧ saw ≤ 4398046511104) (hL : L.length ≤ 1000000000) (hW : W.length ≤ 1000000) (hs0 : 1 ≤ s) (hs1 : s ≤ 8) (hv0 : 0 ≤ nd) (hv1 : nd ≤ 1000) (hli : (li : Int) = nd * (6 + 2 * s)) (hav : (av : Int) = nd * (6 + 2 * s) + 1) :
    Calls Try.prog 53 #[ptr y, ptr m] w (RShP B w m A lv y 1 t s g l r k PA pn pc LA ln lc nd n (sNext 1 li av n ⟨W, L, 2, saw, false⟩)) := by
  have HY0 : Hid (Blk w y 94 [i64 2, i64 t, i64 s, i64 g, i64 l, i64 r, i64 k, .slice PA pn pc, .slice LA ln lc, i64 nd, i64 n, i64 (2), i64 (saw), i64 (0), i64 0, .bool false, i64 (0)]) := hid hy
  have qy0 := HY0.out.k17
  have HM0 := hid hm
  have HLI := hid hli
  have HAV := hid hav
  have HK0 : Hid (Keep0 w w) := hid (Keep.refl _ _)
  obtain ⟨w0, hw0⟩ : ∃ w0 : World, w0 = w := ⟨_, rfl⟩
  have ym : IntKind.i64.wrap (-n) = -n := IntWalk.i64_in _ (by omega)
  have ya : IntKind.i64.wrap (saw + n) = saw + n := IntWalk.i64_in _ (by omega)
  have yb : IntKind.i64.wrap (saw + -n) = saw + -n := IntWalk.i64_in _ (by omega)
  have yc : IntKind.i64.wrap (saw - n) = saw + -n := by rw [Int.sub_eq_add_neg]; exact yb
  have yd : IntKind.i64.wrap (rd W li + n) = rd W li + n := IntWalk.i64_in _ (by omega)
  clear hy hm hli hav
  have e : sNext 1 li av n ⟨W, L, 2, saw, false⟩ = ⟨W.set av (rd W av + n), L ++ [⟨2, av, n, rd W av + n, false⟩], 3, saw, false⟩ := by simp [sNext, sBy]
  rw [e]
  clear e
  go_enter Try.func53, Try.ntmps53
  go_wp2_with fail
  apply wp_region_text (WI := fun S wx => Keep0 w wx) (by kernel_rfl) (by kernel_rfl)
  case hob =>
    apply Oblig.cons
    case h =>
      intro S w1 hwi hSi hd hcl
      apply StepOk.intro
      intro K hK
      have qy3 := (hwi.blk HY0.out (fun h => h)).k17
      go_simp
      apply hK
      · rfl
      · conv => (lhs; whnf)
      · exact hwi
    simp only [put_lit, put_none, List.set_cons_succ, List.set_cons_zero]
    apply Oblig.cons
    case h =>
      intro S w1 hwi hSi hd hcl
      apply StepOk.intro
      intro K hK
      have qy3 := (hwi.blk HY0.out (fun h => h)).k17
      go_simp
      apply hK
      · rfl
      · conv => (lhs; whnf)
      · exact hwi
    simp only [put_lit, put_none, List.set_cons_succ, List.set_cons_zero]
    apply Oblig.cons
    case h =>
      intro S w1 hwi hSi hd hcl
      apply StepOk.intro
      intro K hK
      have qy3 := (hwi.blk HY0.out (fun h => h)).k17
      go_simp
      apply hK
      · rfl
      · conv => (lhs; whnf)
      · exact hwi
    simp only [put_lit, put_none, List.set_cons_succ, List.set_cons_zero]
    apply Oblig.cons
    case h =>
      intro S w1 hwi hSi hd hcl
      apply StepOk.intro
      intro K hK
      have qy3 := (hwi.blk HY0.out (fun h => h)).k17
      go_simp
      apply hK
      · rfl
      · conv => (lhs; whnf)
      · exact hwi
    simp only [put_lit, put_none, List.set_cons_succ, List.set_cons_zero]
    apply Oblig.cons
    case h =>
      intro S w1 hwi hSi hd hcl
      apply StepOk.intro
      intro K hK
      have qy3 := (hwi.blk HY0.out (fun h => h)).k17
      go_simp
      apply hK
      · rfl
      · conv => (lhs; whnf)
      · exact hwi
    simp only [put_lit, put_none, List.set_cons_succ, List.set_cons_zero]
    apply Oblig.cons
    case h =>
      intro S w1 hwi hSi hd hcl
      apply StepOk.intro
      intro K hK
      have qy3 := (hwi.blk HY0.out (fun h => h)).k17
      go_simp
      apply hK
      · rfl
      · conv => (lhs; whnf)
      · exact hwi
    simp only [put_lit, put_none, List.set_cons_succ, List.set_cons_zero]
    apply Oblig.cons
    case h =>
      intro S w1 hwi hSi hd hcl
      apply StepOk.intro
      intro K hK
      have qy3 := (hwi.blk HY0.out (fun h => h)).k17
      go_simp
      apply hK
      · rfl
      · conv => (lhs; whnf)
      · exact hwi
    simp only [put_lit, put_none, List.set_cons_succ, List.set_cons_zero]
    apply Oblig.cons
    case h =>
      intro S w1 hwi hSi hd hcl
      apply StepOk.intro
      intro K hK
      have qy3 := (hwi.blk HY0.out (fun h => h)).k17
      go_simp
      apply hK
      · rfl
      · conv => (lhs; whnf)
      · exact hwi
    simp only [put_lit, put_none, List.set_cons_succ, List.set_cons_zero]
    apply Oblig.cons
    case h =>
      intro S w1 hwi hSi hd hcl
      apply StepOk.intro
      intro K hK
      have qy3 := (hwi.blk HY0.out (fun h => h)).k17
      go_simp
      refine (show Calls Try.prog 16 #[.agg #[i64 t, i64 s, i64 g, i64 l, i64 r, i64 k, .slice PA pn pc, .slice LA ln lc], i64 nd] w1 (Ret (i64 li) w1) from by have h := ref_Limit t s g l r k PA pn pc LA ln lc nd w1 hs0 hs1 hv0 hv1; rw [← HLI.out] at h; exact h).mono ?_
      rintro e w2 ⟨rfl, hk⟩
      apply hK
      · rfl
      · conv => (lhs; whnf)
      · exact Keep0.step hwi hk
    simp only [put_lit, put_none, List.set_cons_succ, List.set_cons_zero]
    apply Oblig.cons
    case h =>
      intro S w1 hwi hSi hd hcl
      apply StepOk.intro
      intro K hK
      have qy3 := (hwi.blk HY0.out (fun h => h)).k17
      go_simp
      apply hK
      · rfl
      · conv => (lhs; whnf)
      · exact hwi
    simp only [put_lit, put_none, List.set_cons_succ, List.set_cons_zero]
    exact Oblig.nil
  case h0 =>
    exact (Keep.refl _ _).drew
  case hend =>
    intro S wx hwi hall
    obtain ⟨w1, rfl⟩ : ∃ w1 : World, w1 = wx := ⟨_, rfl⟩
    have HY1 := hid (hwi.blk HY0.out (fun h => h))
    have HM1 := hid (HM0.out.keep hwi (fun _ _ h => h))
    have HK1 : Hid (Keep0 w w1) := hid (HK0.out.trans hwi (fun _ _ h => h))
    have qy1 := HY1.out.k17
    clear hwi hall HY0 HM0 HK0 qy0
    go_wp2_with fail
    apply wp_region_text (WI := fun S wx => Keep0 w1 wx) (by kernel_rfl) (by kernel_rfl)
    case hob =>
      apply Oblig.cons
      case h =>
        intro S w1 hwi hSi hd hcl
        apply StepOk.intro
        intro K hK
        have qy3 := (hwi.blk HY1.out (fun h => h)).k17
        go_simp
        apply hK
        · rfl
        · conv => (lhs; whnf)
        · exact hwi
      simp only [put_lit, put_none, List.set_cons_succ, List.set_cons_zero]
      apply Oblig.cons
      case h =>
        intro S w1 hwi hSi hd hcl
        apply StepOk.intro
        intro K hK
        have qy3 := (hwi.blk HY1.out (fun h => h)).k17
        go_simp
        apply hK
        · rfl
        · conv => (lhs; whnf)
        · exact hwi
      simp only [put_lit, put_none, List.set_cons_succ, List.set_cons_zero]
      apply Oblig.cons
      case h =>
        intro S w1 hwi hSi hd hcl
        apply StepOk.intro
        intro K hK
        have qy3 := (hwi.blk HY1.out (fun h => h)).k17
        go_simp
        apply hK
        · rfl
        · conv => (lhs; whnf)
        · exact hwi
      simp only [put_lit, put_none, List.set_cons_succ, List.set_cons_zero]
      apply Oblig.cons
      case h =>
        intro S w1 hwi hSi hd hcl
        apply StepOk.intro
        intro K hK
        have qy3 := (hwi.blk HY1.out (fun h => h)).k17
        go_simp
        apply hK
        · rfl
        · conv => (lhs; whnf)
        · exact hwi
      simp only [put_lit, put_none, List.set_cons_succ, List.set_cons_zero]
      apply Oblig.cons
      case h =>
        intro S w1 hwi hSi hd hcl
        apply StepOk.intro
        intro K hK
        have qy3 := (hwi.blk HY1.out (fun h => h)).k17
        go_simp
        apply hK
        · rfl
        · conv => (lhs; whnf)
        · exact hwi
      simp only [put_lit, put_none, List.set_cons_succ, List.set_cons_zero]
      apply Oblig.cons
      case h =>
        intro S w1 hwi hSi hd hcl
        apply StepOk.intro
        intro K hK
        have qy3 := (hwi.blk HY1.out (fun h => h)).k17
        go_simp
        apply hK
        · rfl
        · conv => (lhs; whnf)
        · exact hwi
      simp only [put_lit, put_none, List.set_cons_succ, List.set_cons_zero]
      apply Oblig.cons
      case h =>
        intro S w1 hwi hSi hd hcl
        apply StepOk.intro
        intro K hK
        have qy3 := (hwi.blk HY1.out (fun h => h)).k17
        go_simp
        apply hK
        · rfl
        · conv => (lhs; whnf)
        · exact hwi
      simp only [put_lit, put_none, List.set_cons_succ, List.set_cons_zero]
      apply Oblig.cons
      case h =>
        intro S w1 hwi hSi hd hcl
        apply StepOk.intro
        intro K hK
        have qy3 := (hwi.blk HY1.out (fun h => h)).k17
        go_simp
        apply hK
        · rfl
        · conv => (lhs; whnf)
        · exact hwi
      simp only [put_lit, put_none, List.set_cons_succ, List.set_cons_zero]
      apply Oblig.cons
      case h =>
        intro S w1 hwi hSi hd hcl
        apply StepOk.intro
        intro K hK
        have qy3 := (hwi.blk HY1.out (fun h => h)).k17
        go_simp
        refine (show Calls Try.prog 17 #[.agg #[i64 t, i64 s, i64 g, i64 l, i64 r, i64 k, .slice PA pn pc, .slice LA ln lc], i64 nd] w1 (Ret (i64 av) w1) from by have h := ref_Avail t s g l r k PA pn pc LA ln lc nd w1 hs0 hs1 hv0 hv1; rw [← HAV.out] at h; exact h).mono ?_
        rintro e w2 ⟨rfl, hk⟩
        apply hK
        · rfl
        · conv => (lhs; whnf)
        · exact Keep0.step hwi hk
      simp only [put_lit, put_none, List.set_cons_succ, List.set_cons_zero]
      apply Oblig.cons
      case h =>
        intro S w1 hwi hSi hd hcl
        apply StepOk.intro
        intro K hK
        have qy3 := (hwi.blk HY1.out (fun h => h)).k17
        go_simp
        apply hK
        · rfl
        · conv => (lhs; whnf)
        · exact hwi
      simp only [put_lit, put_none, List.set_cons_succ, List.set_cons_zero]
      exact Oblig.nil
    case h0 =>
      exact (Keep.refl _ _).drew
    case hend =>
      intro S wx hwi hall
      obtain ⟨w2, rfl⟩ : ∃ w2 : World, w2 = wx := ⟨_, rfl⟩
      have HY2 := hid (hwi.blk HY1.out (fun h => h))
      have HM2 := hid (HM1.out.keep hwi (fun _ _ h => h))
      have HK2 : Hid (Keep0 w w2) := hid (HK1.out.trans hwi (fun _ _ h => h))
      have qy2 := HY2.out.k17
      clear hwi hall HY1 HM1 HK1 qy1
      go_wp2_with fail
      obtain ⟨w9, rfl⟩ : ∃ w9 : World, w9 = w2 := ⟨_, rfl⟩
      have HY9 := hid HY2.out
      have HM9 := hid HM2.out
      have HK9 := hid HK2.out
      clear HY2 HM2 HK2
      refine Calls.mono (show Calls Try.prog 69 #[ptr m, i64 av, i64 (n)] w9 (fun e w' => e = .returned (i64 (rd W av + n)) ∧ RefPost B w9 m A lv (W.set av (rd W av + n)) (L ++ [⟨2, av, n, rd W av + n, false⟩]) w') from by have h := ref_Add (av : Int) (n) HM9.out (by omega) (by omega) hW hL; rw [Int.toNat_natCast, wrap64_in _ (by omega)] at h; exact h) ?_
      rintro e w10 ⟨rfl, A3, c3, lv3, hm, hk, ha, hl⟩
      have hb := hk.blk HY9.out (rs_far HM9.out HY9.out)
      have HK10 := hid ((HK9.out.mono (T := fun b => b = m ∨ lv.ownBlock = some b) (fun _ h => h.elim)).trans hk (fun _ _ h => h))
      have HM10 := hid hm
      have HY10 := hid hb
      have HA10 := hid (fun b h => (ha b h).imp id (fun h => Nat.le_trans HK9.out.size h))
      have HL10 := hid (fun b h => (hl b h).imp id (fun h => Nat.le_trans HK9.out.size h))
      have qy10 := hb.k17
      clear hm hk ha hl hb HK9 HM9 HY9 qy2
      go_wp2_with fail
      go_ret
      exact rshP_of (x' := _) HM10.out HK10.out HA10.out HL10.out HY10.out ((Keep.refl (fun k => k = y) w10).trans (((Keep.refl (fun k => k = y) w10)).set ⟨y, 11, none⟩ _ (fun _ => rfl)) (fun _ _ h => h)) ((HY10.out).set 11 _)
set_option maxHeartbeats 4000000 in
theorem rsh_step22 {saw : Int} {W : List Int} {L : List Acc} (hm : RefAt B w m A ca lv W L) (hy : Blk w y 94 [i64 3, i64 t, i64 s, i64 g, i64 l, i64 r, i64 k, .slice PA pn pc, .slice LA ln lc, i64 nd, i64 n, i64 (2), i64 (saw), i64 (0), i64 0, .bool false, i64 (0)]) (h1 : li < W.length) (h2 : av < W.length) (hne : li ≠ av) (hn : 1 ≤ n ∧ n ≤ 1048576) (hb1 : -4398046511104 ≤ rd W li ∧ rd W li ≤ 4398046511104) (hb2 : -4398046511104 ≤ rd W av ∧ rd W av ≤ 4398046511104) (hb3 : -4398046511104 ≤ saw ∧ saw ≤ 4398046511104) (hL : L.length ≤ 1000000000) (hW : W.length ≤ 1000000) (hs0 : 1 ≤ s) (hs1 : s ≤ 8) (hv0 : 0 ≤ nd) (hv1 : nd ≤ 1000) (hli : (li : Int) = nd * (6 + 2 * s)) (hav : (av : Int) = nd * (6 + 2 * s) + 1) :
    Calls Try.prog 53 #[ptr y, ptr m] w (RShP B w m A lv y 2 t s g l r k PA pn pc LA ln lc nd n (sNext 2 av li n ⟨W, L, 2, saw, false⟩)) := by
  have HY0 : Hid (Blk w y 94 [i64 3, i64 t, i64 s, i64 g, i64 l, i64 r, i64 k, .slice PA pn pc, .slice LA ln lc, i64 nd, i64 n, i64 (2), i64 (saw), i64 (0), i64 0, .bool false, i64 (0)]) := hid hy
  have qy0 := HY0.out.k17
  have HM0 := hid hm
  have HLI := hid hli
  have HAV := hid hav
  have HK0 : Hid (Keep0 w w) := hid (Keep.refl _ _)
  obtain ⟨w0, hw0⟩ : ∃ w0 : World, w0 = w := ⟨_, rfl⟩
  have ym : IntKind.i64.wrap (-n) = -n := IntWalk.i64_in _ (by omega)
  have ya : IntKind.i64.wrap (saw + n) = saw + n := IntWalk.i64_in _ (by omega)
  have yb : IntKind.i64.wrap (saw + -n) = saw + -n := IntWalk.i64_in _ (by omega)
  have yc : IntKind.i64.wrap (saw - n) = saw + -n := by rw [Int.sub_eq_add_neg]; exact yb
  have yd : IntKind.i64.wrap (rd W li + n) = rd W li + n := IntWalk.i64_in _ (by omega)
  clear hy hm hli hav
  have e : sNext 2 av li n ⟨W, L, 2, saw, false⟩ = ⟨W.set li (rd W li + -n), L ++ [⟨2, li, -n, rd W li + -n, false⟩], 3, saw, false⟩ := by simp [sNext, sBy]
  rw [e]
  clear e
  go_enter Try.func53, Try.ntmps53
  go_wp2_with fail
  apply wp_region_text (WI := fun S wx => Keep0 w wx) (by kernel_rfl) (by kernel_rfl)
  case hob =>
    apply Oblig.cons
    case h =>
      intro S w1 hwi hSi hd hcl
      apply StepOk.intro
      intro K hK
      have qy3 := (hwi.blk HY0.out (fun h => h)).k17
      go_simp
      apply hK
      · rfl
      · conv => (lhs; whnf)
      · exact hwi
    simp only [put_lit, put_none, List.set_cons_succ, List.set_cons_zero]
    apply Oblig.cons
    case h =>
      intro S w1 hwi hSi hd hcl
      apply StepOk.intro
      intro K hK
      have qy3 := (hwi.blk HY0.out (fun h => h)).k17
      go_simp
      apply hK
      · rfl
      · conv => (lhs; whnf)
      · exact hwi
    simp only [put_lit, put_none, List.set_cons_succ, List.set_cons_zero]
    apply Oblig.cons
    case h =>
      intro S w1 hwi hSi hd hcl
      apply StepOk.intro
      intro K hK
      have qy3 := (hwi.blk HY0.out (fun h => h)).k17
      go_simp
      apply hK
      · rfl
      · conv => (lhs; whnf)
      · exact hwi
    simp only [put_lit, put_none, List.set_cons_succ, List.set_cons_zero]
    apply Oblig.cons
    case h =>
      intro S w1 hwi hSi hd hcl
      apply StepOk.intro
      intro K hK
      have qy3 := (hwi.blk HY0.out (fun h => h)).k17
      go_simp
      apply hK
      · rfl
      · conv => (lhs; whnf)
      · exact hwi
    simp only [put_lit, put_none, List.set_cons_succ, List.set_cons_zero]
    apply Oblig.cons
    case h =>
      intro S w1 hwi hSi hd hcl
      apply StepOk.intro
      intro K hK
      have qy3 := (hwi.blk HY0.out (fun h => h)).k17
      go_simp
      apply hK
      · rfl
      · conv => (lhs; whnf)
      · exact hwi
    simp only [put_lit, put_none, List.set_cons_succ, List.set_cons_zero]
    apply Oblig.cons
    case h =>
      intro S w1 hwi hSi hd hcl
      apply StepOk.intro
      intro K hK
      have qy3 := (hwi.blk HY0.out (fun h => h)).k17
      go_simp
      apply hK
      · rfl
      · conv => (lhs; whnf)
      · exact hwi
    simp only [put_lit, put_none, List.set_cons_succ, List.set_cons_zero]
    apply Oblig.cons
    case h =>
      intro S w1 hwi hSi hd hcl
      apply StepOk.intro
      intro K hK
      have qy3 := (hwi.blk HY0.out (fun h => h)).k17
      go_simp
      apply hK
      · rfl
      · conv => (lhs; whnf)
      · exact hwi
    simp only [put_lit, put_none, List.set_cons_succ, List.set_cons_zero]
    apply Oblig.cons
    case h =>
      intro S w1 hwi hSi hd hcl
      apply StepOk.intro
      intro K hK
      have qy3 := (hwi.blk HY0.out (fun h => h)).k17
      go_simp
      apply hK
      · rfl
      · conv => (lhs; whnf)
      · exact hwi
    simp only [put_lit, put_none, List.set_cons_succ, List.set_cons_zero]
    apply Oblig.cons
    case h =>
      intro S w1 hwi hSi hd hcl
      apply StepOk.intro
      intro K hK
      have qy3 := (hwi.blk HY0.out (fun h => h)).k17
      go_simp
      refine (show Calls Try.prog 16 #[.agg #[i64 t, i64 s, i64 g, i64 l, i64 r, i64 k, .slice PA pn pc, .slice LA ln lc], i64 nd] w1 (Ret (i64 li) w1) from by have h := ref_Limit t s g l r k PA pn pc LA ln lc nd w1 hs0 hs1 hv0 hv1; rw [← HLI.out] at h; exact h).mono ?_
      rintro e w2 ⟨rfl, hk⟩
      apply hK
      · rfl
      · conv => (lhs; whnf)
      · exact Keep0.step hwi hk
    simp only [put_lit, put_none, List.set_cons_succ, List.set_cons_zero]
    apply Oblig.cons
    case h =>
      intro S w1 hwi hSi hd hcl
      apply StepOk.intro
      intro K hK
      have qy3 := (hwi.blk HY0.out (fun h => h)).k17
      go_simp
      apply hK
      · rfl
      · conv => (lhs; whnf)
      · exact hwi
    simp only [put_lit, put_none, List.set_cons_succ, List.set_cons_zero]
    exact Oblig.nil
  case h0 =>
    exact (Keep.refl _ _).drew
  case hend =>
    intro S wx hwi hall
    obtain ⟨w1, rfl⟩ : ∃ w1 : World, w1 = wx := ⟨_, rfl⟩
    have HY1 := hid (hwi.blk HY0.out (fun h => h))
    have HM1 := hid (HM0.out.keep hwi (fun _ _ h => h))
    have HK1 : Hid (Keep0 w w1) := hid (HK0.out.trans hwi (fun _ _ h => h))
    have qy1 := HY1.out.k17
    clear hwi hall HY0 HM0 HK0 qy0
    go_wp2_with fail
    apply wp_region_text (WI := fun S wx => Keep0 w1 wx) (by kernel_rfl) (by kernel_rfl)
    case hob =>
      apply Oblig.cons
      case h =>
        intro S w1 hwi hSi hd hcl
        apply StepOk.intro
        intro K hK
        have qy3 := (hwi.blk HY1.out (fun h => h)).k17
        go_simp
        apply hK
        · rfl
        · conv => (lhs; whnf)
        · exact hwi
      simp only [put_lit, put_none, List.set_cons_succ, List.set_cons_zero]
      apply Oblig.cons
      case h =>
        intro S w1 hwi hSi hd hcl
        apply StepOk.intro
        intro K hK
        have qy3 := (hwi.blk HY1.out (fun h => h)).k17
        go_simp
        apply hK
        · rfl
        · conv => (lhs; whnf)
        · exact hwi
      simp only [put_lit, put_none, List.set_cons_succ, List.set_cons_zero]
      apply Oblig.cons
      case h =>
        intro S w1 hwi hSi hd hcl
        apply StepOk.intro
        intro K hK
        have qy3 := (hwi.blk HY1.out (fun h => h)).k17
        go_simp
        apply hK
        · rfl
        · conv => (lhs; whnf)
        · exact hwi
      simp only [put_lit, put_none, List.set_cons_succ, List.set_cons_zero]
      apply Oblig.cons
      case h =>
        intro S w1 hwi hSi hd hcl
        apply StepOk.intro
        intro K hK
        have qy3 := (hwi.blk HY1.out (fun h => h)).k17
        go_simp
        apply hK
        · rfl
        · conv => (lhs; whnf)
        · exact hwi
      simp only [put_lit, put_none, List.set_cons_succ, List.set_cons_zero]
      apply Oblig.cons
      case h =>
        intro S w1 hwi hSi hd hcl
        apply StepOk.intro
        intro K hK
        have qy3 := (hwi.blk HY1.out (fun h => h)).k17
        go_simp
        apply hK
        · rfl
        · conv => (lhs; whnf)
        · exact hwi
      simp only [put_lit, put_none, List.set_cons_succ, List.set_cons_zero]
      apply Oblig.cons
      case h =>
        intro S w1 hwi hSi hd hcl
        apply StepOk.intro
        intro K hK
        have qy3 := (hwi.blk HY1.out (fun h => h)).k17
        go_simp
        apply hK
        · rfl
        · conv => (lhs; whnf)
        · exact hwi
      simp only [put_lit, put_none, List.set_cons_succ, List.set_cons_zero]
      apply Oblig.cons
      case h =>
        intro S w1 hwi hSi hd hcl
        apply StepOk.intro
        intro K hK
        have qy3 := (hwi.blk HY1.out (fun h => h)).k17
        go_simp
        apply hK
        · rfl
        · conv => (lhs; whnf)
        · exact hwi
      simp only [put_lit, put_none, List.set_cons_succ, List.set_cons_zero]
      apply Oblig.cons
      case h =>
        intro S w1 hwi hSi hd hcl
        apply StepOk.intro
        intro K hK
        have qy3 := (hwi.blk HY1.out (fun h => h)).k17
        go_simp
        apply hK
        · rfl
        · conv => (lhs; whnf)
        · exact hwi
      simp only [put_lit, put_none, List.set_cons_succ, List.set_cons_zero]
      apply Oblig.cons
      case h =>
        intro S w1 hwi hSi hd hcl
        apply StepOk.intro
        intro K hK
        have qy3 := (hwi.blk HY1.out (fun h => h)).k17
        go_simp
        refine (show Calls Try.prog 17 #[.agg #[i64 t, i64 s, i64 g, i64 l, i64 r, i64 k, .slice PA pn pc, .slice LA ln lc], i64 nd] w1 (Ret (i64 av) w1) from by have h := ref_Avail t s g l r k PA pn pc LA ln lc nd w1 hs0 hs1 hv0 hv1; rw [← HAV.out] at h; exact h).mono ?_
        rintro e w2 ⟨rfl, hk⟩
        apply hK
        · rfl
        · conv => (lhs; whnf)
        · exact Keep0.step hwi hk
      simp only [put_lit, put_none, List.set_cons_succ, List.set_cons_zero]
      apply Oblig.cons
      case h =>
        intro S w1 hwi hSi hd hcl
        apply StepOk.intro
        intro K hK
        have qy3 := (hwi.blk HY1.out (fun h => h)).k17
        go_simp
        apply hK
        · rfl
        · conv => (lhs; whnf)
        · exact hwi
      simp only [put_lit, put_none, List.set_cons_succ, List.set_cons_zero]
      exact Oblig.nil
    case h0 =>
      exact (Keep.refl _ _).drew
    case hend =>
      intro S wx hwi hall
      obtain ⟨w2, rfl⟩ : ∃ w2 : World, w2 = wx := ⟨_, rfl⟩
      have HY2 := hid (hwi.blk HY1.out (fun h => h))
      have HM2 := hid (HM1.out.keep hwi (fun _ _ h => h))
      have HK2 : Hid (Keep0 w w2) := hid (HK1.out.trans hwi (fun _ _ h => h))
      have qy2 := HY2.out.k17
      clear hwi hall HY1 HM1 HK1 qy1
      go_wp2_with fail
      apply wp_region_text (WI := fun S wx => Keep0 w2 wx) (by kernel_rfl) (by kernel_rfl)
      case hob =>
        apply Oblig.cons
        case h =>
          intro S w1 hwi hSi hd hcl
          apply StepOk.intro
          intro K hK
          have qy3 := (hwi.blk HY2.out (fun h => h)).k17
          go_simp
          apply hK
          · rfl
          · conv => (lhs; whnf)
          · exact hwi
        simp only [put_lit, put_none, List.set_cons_succ, List.set_cons_zero]
        apply Oblig.cons
        case h =>
          intro S w1 hwi hSi hd hcl
          apply StepOk.intro
          intro K hK
          have qy3 := (hwi.blk HY2.out (fun h => h)).k17
          go_simp
          apply hK
          · rfl
          · conv => (lhs; whnf)
          · exact hwi
        simp only [put_lit, put_none, List.set_cons_succ, List.set_cons_zero]
        apply Oblig.cons
        case h =>
          intro S w1 hwi hSi hd hcl
          apply StepOk.intro
          intro K hK
          have qy3 := (hwi.blk HY2.out (fun h => h)).k17
          go_simp
          apply hK
          · rfl
          · conv => (lhs; whnf)
          · exact hwi
        simp only [put_lit, put_none, List.set_cons_succ, List.set_cons_zero]
        apply Oblig.cons
        case h =>
          intro S w1 hwi hSi hd hcl
          apply StepOk.intro
          intro K hK
          have qy3 := (hwi.blk HY2.out (fun h => h)).k17
          go_simp
          apply hK
          · rfl
          · conv => (lhs; whnf)
          · exact hwi
        simp only [put_lit, put_none, List.set_cons_succ, List.set_cons_zero]
        apply Oblig.cons
        case h =>
          intro S w1 hwi hSi hd hcl
          apply StepOk.intro
          intro K hK
          have qy3 := (hwi.blk HY2.out (fun h => h)).k17
          go_simp
          apply hK
          · rfl
          · conv => (lhs; whnf)
          · exact hwi
        simp only [put_lit, put_none, List.set_cons_succ, List.set_cons_zero]
        apply Oblig.cons
        case h =>
          intro S w1 hwi hSi hd hcl
          apply StepOk.intro
          intro K hK
          have qy3 := (hwi.blk HY2.out (fun h => h)).k17
          go_simp
          apply hK
          · rfl
          · conv => (lhs; whnf)
          · exact hwi
        simp only [put_lit, put_none, List.set_cons_succ, List.set_cons_zero]
        apply Oblig.cons
        case h =>
          intro S w1 hwi hSi hd hcl
          apply StepOk.intro
          intro K hK
          have qy3 := (hwi.blk HY2.out (fun h => h)).k17
          go_simp
          apply hK
          · rfl
          · conv => (lhs; whnf)
          · exact hwi
        simp only [put_lit, put_none, List.set_cons_succ, List.set_cons_zero]
        apply Oblig.cons
        case h =>
          intro S w1 hwi hSi hd hcl
          apply StepOk.intro
          intro K hK
          have qy3 := (hwi.blk HY2.out (fun h => h)).k17
          go_simp
          apply hK
          · rfl
          · conv => (lhs; whnf)
          · exact hwi
        simp only [put_lit, put_none, List.set_cons_succ, List.set_cons_zero]
        apply Oblig.cons
        case h =>
          intro S w1 hwi hSi hd hcl
          apply StepOk.intro
          intro K hK
          have qy3 := (hwi.blk HY2.out (fun h => h)).k17
          go_simp
          refine (show Calls Try.prog 17 #[.agg #[i64 t, i64 s, i64 g, i64 l, i64 r, i64 k, .slice PA pn pc, .slice LA ln lc], i64 nd] w1 (Ret (i64 av) w1) from by have h := ref_Avail t s g l r k PA pn pc LA ln lc nd w1 hs0 hs1 hv0 hv1; rw [← HAV.out] at h; exact h).mono ?_
          rintro e w2 ⟨rfl, hk⟩
          apply hK
          · rfl
          · conv => (lhs; whnf)
          · exact Keep0.step hwi hk
        simp only [put_lit, put_none, List.set_cons_succ, List.set_cons_zero]
        apply Oblig.cons
        case h =>
          intro S w1 hwi hSi hd hcl
          apply StepOk.intro
          intro K hK
          have qy3 := (hwi.blk HY2.out (fun h => h)).k17
          go_simp
          apply hK
          · rfl
          · conv => (lhs; whnf)
          · exact hwi
        simp only [put_lit, put_none, List.set_cons_succ, List.set_cons_zero]
        exact Oblig.nil
      case h0 =>
        exact (Keep.refl _ _).drew
      case hend =>
        intro S wx hwi hall
        obtain ⟨w3, rfl⟩ : ∃ w3 : World, w3 = wx := ⟨_, rfl⟩
        have HY3 := hid (hwi.blk HY2.out (fun h => h))
        have HM3 := hid (HM2.out.keep hwi (fun _ _ h => h))
        have HK3 : Hid (Keep0 w w3) := hid (HK2.out.trans hwi (fun _ _ h => h))
        have qy3 := HY3.out.k17
        clear hwi hall HY2 HM2 HK2 qy2
        go_wp2_with fail
        apply wp_region_text (WI := fun S wx => Keep0 w3 wx) (by kernel_rfl) (by kernel_rfl)
        case hob =>
          apply Oblig.cons
          case h =>
            intro S w1 hwi hSi hd hcl
            apply StepOk.intro
            intro K hK
            have qy3 := (hwi.blk HY3.out (fun h => h)).k17
            go_simp
            apply hK
            · rfl
            · conv => (lhs; whnf)
            · exact hwi
          simp only [put_lit, put_none, List.set_cons_succ, List.set_cons_zero]
          apply Oblig.cons
          case h =>
            intro S w1 hwi hSi hd hcl
            apply StepOk.intro
            intro K hK
            have qy3 := (hwi.blk HY3.out (fun h => h)).k17
            go_simp
            apply hK
            · rfl
            · conv => (lhs; whnf)
            · exact hwi
          simp only [put_lit, put_none, List.set_cons_succ, List.set_cons_zero]
          apply Oblig.cons
          case h =>
            intro S w1 hwi hSi hd hcl
            apply StepOk.intro
            intro K hK
            have qy3 := (hwi.blk HY3.out (fun h => h)).k17
            go_simp
            apply hK
            · rfl
            · conv => (lhs; whnf)
            · exact hwi
          simp only [put_lit, put_none, List.set_cons_succ, List.set_cons_zero]
          apply Oblig.cons
          case h =>
            intro S w1 hwi hSi hd hcl
            apply StepOk.intro
            intro K hK
            have qy3 := (hwi.blk HY3.out (fun h => h)).k17
            go_simp
            apply hK
            · rfl
            · conv => (lhs; whnf)
            · exact hwi
          simp only [put_lit, put_none, List.set_cons_succ, List.set_cons_zero]
          apply Oblig.cons
          case h =>
            intro S w1 hwi hSi hd hcl
            apply StepOk.intro
            intro K hK
            have qy3 := (hwi.blk HY3.out (fun h => h)).k17
            go_simp
            apply hK
            · rfl
            · conv => (lhs; whnf)
            · exact hwi
          simp only [put_lit, put_none, List.set_cons_succ, List.set_cons_zero]
          apply Oblig.cons
          case h =>
            intro S w1 hwi hSi hd hcl
            apply StepOk.intro
            intro K hK
            have qy3 := (hwi.blk HY3.out (fun h => h)).k17
            go_simp
            apply hK
            · rfl
            · conv => (lhs; whnf)
            · exact hwi
          simp only [put_lit, put_none, List.set_cons_succ, List.set_cons_zero]
          apply Oblig.cons
          case h =>
            intro S w1 hwi hSi hd hcl
            apply StepOk.intro
            intro K hK
            have qy3 := (hwi.blk HY3.out (fun h => h)).k17
            go_simp
            apply hK
            · rfl
            · conv => (lhs; whnf)
            · exact hwi
          simp only [put_lit, put_none, List.set_cons_succ, List.set_cons_zero]
          apply Oblig.cons
          case h =>
            intro S w1 hwi hSi hd hcl
            apply StepOk.intro
            intro K hK
            have qy3 := (hwi.blk HY3.out (fun h => h)).k17
            go_simp
            apply hK
            · rfl
            · conv => (lhs; whnf)
            · exact hwi
          simp only [put_lit, put_none, List.set_cons_succ, List.set_cons_zero]
          apply Oblig.cons
          case h =>
            intro S w1 hwi hSi hd hcl
            apply StepOk.intro
            intro K hK
            have qy3 := (hwi.blk HY3.out (fun h => h)).k17
            go_simp
            refine (show Calls Try.prog 16 #[.agg #[i64 t, i64 s, i64 g, i64 l, i64 r, i64 k, .slice PA pn pc, .slice LA ln lc], i64 nd] w1 (Ret (i64 li) w1) from by have h := ref_Limit t s g l r k PA pn pc LA ln lc nd w1 hs0 hs1 hv0 hv1; rw [← HLI.out] at h; exact h).mono ?_
            rintro e w2 ⟨rfl, hk⟩
            apply hK
            · rfl
            · conv => (lhs; whnf)
            · exact Keep0.step hwi hk
          simp only [put_lit, put_none, List.set_cons_succ, List.set_cons_zero]
          apply Oblig.cons
          case h =>
            intro S w1 hwi hSi hd hcl
            apply StepOk.intro
            intro K hK
            have qy3 := (hwi.blk HY3.out (fun h => h)).k17
            go_simp
            apply hK
            · rfl
            · conv => (lhs; whnf)
            · exact hwi
          simp only [put_lit, put_none, List.set_cons_succ, List.set_cons_zero]
          exact Oblig.nil
        case h0 =>
          exact (Keep.refl _ _).drew
        case hend =>
          intro S wx hwi hall
          obtain ⟨w4, rfl⟩ : ∃ w4 : World, w4 = wx := ⟨_, rfl⟩
          have HY4 := hid (hwi.blk HY3.out (fun h => h))
          have HM4 := hid (HM3.out.keep hwi (fun _ _ h => h))
          have HK4 : Hid (Keep0 w w4) := hid (HK3.out.trans hwi (fun _ _ h => h))
          have qy4 := HY4.out.k17
          clear hwi hall HY3 HM3 HK3 qy3
          go_wp2_with fail
          obtain ⟨w9, rfl⟩ : ∃ w9 : World, w9 = w4 := ⟨_, rfl⟩
          have HY9 := hid HY4.out
          have HM9 := hid HM4.out
          have HK9 := hid HK4.out
          clear HY4 HM4 HK4
          refine Calls.mono (show Calls Try.prog 69 #[ptr m, i64 li, i64 (-n)] w9 (fun e w' => e = .returned (i64 (rd W li + -n)) ∧ RefPost B w9 m A lv (W.set li (rd W li + -n)) (L ++ [⟨2, li, -n, rd W li + -n, false⟩]) w') from by have h := ref_Add (li : Int) (-n) HM9.out (by omega) (by omega) hW hL; rw [Int.toNat_natCast, wrap64_in _ (by omega)] at h; exact h) ?_
          rintro e w10 ⟨rfl, A3, c3, lv3, hm, hk, ha, hl⟩
          have hb := hk.blk HY9.out (rs_far HM9.out HY9.out)
          have HK10 := hid ((HK9.out.mono (T := fun b => b = m ∨ lv.ownBlock = some b) (fun _ h => h.elim)).trans hk (fun _ _ h => h))
          have HM10 := hid hm
          have HY10 := hid hb
          have HA10 := hid (fun b h => (ha b h).imp id (fun h => Nat.le_trans HK9.out.size h))
          have HL10 := hid (fun b h => (hl b h).imp id (fun h => Nat.le_trans HK9.out.size h))
          have qy10 := hb.k17
          clear hm hk ha hl hb HK9 HM9 HY9 qy4
          go_wp2_with fail
          go_ret
          exact rshP_of (x' := _) HM10.out HK10.out HA10.out HL10.out HY10.out ((Keep.refl (fun k => k = y) w10).trans (((Keep.refl (fun k => k = y) w10)).set ⟨y, 11, none⟩ _ (fun _ => rfl)) (fun _ _ h => h)) ((HY10.out).set 11 _)
end
end Go.Proofs.Ytonekdolmbdniaa


namespace Go.Proofs.Ytonekdolmbdniaa
open Go.RowKit
set_option linter.unusedVariables false
set_option linter.unusedSimpArgs false
set_option maxRecDepth 100000
section
variable {B : Nat} {w : World} {m y : Nat} {A : Option Addr} {ca : Nat} {lv : Value} {kd li av : Nat} {t s g l r k nd n X : Int} {PA : Option Addr} {pn pc : Nat} {LA : Option Addr} {ln lc : Nat}
set_option maxHeartbeats 4000000 in
theorem rsh_step11 {saw : Int} {W : List Int} {L : List Acc} (hm : RefAt B w m A ca lv W L) (hy : Blk w y 94 [i64 2, i64 t, i64 s, i64 g, i64 l, i64 r, i64 k, .slice PA pn pc, .slice LA ln lc, i64 nd, i64 n, i64 (1), i64 (saw), i64 (0), i64 0, .bool false, i64 (0)]) (h1 : li < W.length) (h2 : av < W.length) (hne : li ≠ av) (hn : 1 ≤ n ∧ n ≤ 1048576) (hb1 : -4398046511104 ≤ rd W li ∧ rd W li ≤ 4398046511104) (hb2 : -4398046511104 ≤ rd W av ∧ rd W av ≤ 4398046511104) (hb3 : -4398046511104 ≤ saw ∧ saw ≤ 4398046511104) (hL : L.length ≤ 1000000000) (hW : W.length ≤ 1000000) (hs0 : 1 ≤ s) (hs1 : s ≤ 8) (hv0 : 0 ≤ nd) (hv1 : nd ≤ 1000) (hli : (li : Int) = nd * (6 + 2 * s)) (hav : (av : Int) = nd * (6 + 2 * s) + 1) :
    Calls Try.prog 53 #[ptr y, ptr m] w (RShP B w m A lv y 1 t s g l r k PA pn pc LA ln lc nd n (sNext 1 li av n ⟨W, L, 1, saw, false⟩)) := by
  have HY0 : Hid (Blk w y 94 [i64 2, i64 t, i64 s, i64 g, i64 l, i64 r, i64 k, .slice PA pn pc, .slice LA ln lc, i64 nd, i64 n, i64 (1), i64 (saw), i64 (0), i64 0, .bool false, i64 (0)]) := hid hy
  have qy0 := HY0.out.k17
  have HM0 := hid hm
  have HLI := hid hli
  have HAV := hid hav
  have HK0 : Hid (Keep0 w w) := hid (Keep.refl _ _)
  obtain ⟨w0, hw0⟩ : ∃ w0 : World, w0 = w := ⟨_, rfl⟩
  have ym : IntKind.i64.wrap (-n) = -n := IntWalk.i64_in _ (by omega)
  have ya : IntKind.i64.wrap (saw + n) = saw + n := IntWalk.i64_in _ (by omega)
  have yb : IntKind.i64.wrap (saw + -n) = saw + -n := IntWalk.i64_in _ (by omega)
  have yc : IntKind.i64.wrap (saw - n) = saw + -n := by rw [Int.sub_eq_add_neg]; exact yb
  have yd : IntKind.i64.wrap (rd W li + n) = rd W li + n := IntWalk.i64_in _ (by omega)
  clear hy hm hli hav
  cases hcb : (rd W li == saw)
  · have e : sNext 1 li av n ⟨W, L, 1, saw, false⟩ = ⟨casW W li saw (saw + n), L ++ [⟨3, li, saw, saw + n, false⟩], 0, saw, false⟩ := by have h0 := hcb; simp only [beq_iff_eq, beq_eq_false_iff_ne, ne_eq] at h0; simp [sNext, sBy, hcb, h0]
    rw [e]
    clear e
    go_enter Try.func53, Try.ntmps53
    go_wp2_with fail
    apply wp_region_text (WI := fun S wx => Keep0 w wx) (by kernel_rfl) (by kernel_rfl)
    case hob =>
      apply Oblig.cons
      case h =>
        intro S w1 hwi hSi hd hcl
        apply StepOk.intro
        intro K hK
        have qy3 := (hwi.blk HY0.out (fun h => h)).k17
        go_simp
        apply hK
        · rfl
        · conv => (lhs; whnf)
        · exact hwi
      simp only [put_lit, put_none, List.set_cons_succ, List.set_cons_zero]
      apply Oblig.cons
      case h =>
        intro S w1 hwi hSi hd hcl
        apply StepOk.intro
        intro K hK
        have qy3 := (hwi.blk HY0.out (fun h => h)).k17
        go_simp
        apply hK
        · rfl
        · conv => (lhs; whnf)
        · exact hwi
      simp only [put_lit, put_none, List.set_cons_succ, List.set_cons_zero]
      apply Oblig.cons
      case h =>
        intro S w1 hwi hSi hd hcl
        apply StepOk.intro
        intro K hK
        have qy3 := (hwi.blk HY0.out (fun h => h)).k17
        go_simp
        apply hK
        · rfl
        · conv => (lhs; whnf)
        · exact hwi
      simp only [put_lit, put_none, List.set_cons_succ, List.set_cons_zero]
      apply Oblig.cons
      case h =>
        intro S w1 hwi hSi hd hcl
        apply StepOk.intro
        intro K hK
        have qy3 := (hwi.blk HY0.out (fun h => h)).k17
        go_simp
        apply hK
        · rfl
        · conv => (lhs; whnf)
        · exact hwi
      simp only [put_lit, put_none, List.set_cons_succ, List.set_cons_zero]
      apply Oblig.cons
      case h =>
        intro S w1 hwi hSi hd hcl
        apply StepOk.intro
        intro K hK
        have qy3 := (hwi.blk HY0.out (fun h => h)).k17
        go_simp
        apply hK
        · rfl
        · conv => (lhs; whnf)
        · exact hwi
      simp only [put_lit, put_none, List.set_cons_succ, List.set_cons_zero]
      apply Oblig.cons
      case h =>
        intro S w1 hwi hSi hd hcl
        apply StepOk.intro
        intro K hK
        have qy3 := (hwi.blk HY0.out (fun h => h)).k17
        go_simp
        apply hK
        · rfl
        · conv => (lhs; whnf)
        · exact hwi
      simp only [put_lit, put_none, List.set_cons_succ, List.set_cons_zero]
      apply Oblig.cons
      case h =>
        intro S w1 hwi hSi hd hcl
        apply StepOk.intro
        intro K hK
        have qy3 := (hwi.blk HY0.out (fun h => h)).k17
        go_simp
        apply hK
        · rfl
        · conv => (lhs; whnf)
        · exact hwi
      simp only [put_lit, put_none, List.set_cons_succ, List.set_cons_zero]
      apply Oblig.cons
      case h =>
        intro S w1 hwi hSi hd hcl
        apply StepOk.intro
        intro K hK
        have qy3 := (hwi.blk HY0.out (fun h => h)).k17
        go_simp
        apply hK
        · rfl
        · conv => (lhs; whnf)
        · exact hwi
      simp only [put_lit, put_none, List.set_cons_succ, List.set_cons_zero]
      apply Oblig.cons
      case h =>
        intro S w1 hwi hSi hd hcl
        apply StepOk.intro
        intro K hK
        have qy3 := (hwi.blk HY0.out (fun h => h)).k17
        go_simp
        refine (show Calls Try.prog 16 #[.agg #[i64 t, i64 s, i64 g, i64 l, i64 r, i64 k, .slice PA pn pc, .slice LA ln lc], i64 nd] w1 (Ret (i64 li) w1) from by have h := ref_Limit t s g l r k PA pn pc LA ln lc nd w1 hs0 hs1 hv0 hv1; rw [← HLI.out] at h; exact h).mono ?_
        rintro e w2 ⟨rfl, hk⟩
        apply hK
        · rfl
        · conv => (lhs; whnf)
        · exact Keep0.step hwi hk
      simp only [put_lit, put_none, List.set_cons_succ, List.set_cons_zero]
      apply Oblig.cons
      case h =>
        intro S w1 hwi hSi hd hcl
        apply StepOk.intro
        intro K hK
        have qy3 := (hwi.blk HY0.out (fun h => h)).k17
        go_simp
        apply hK
        · rfl
        · conv => (lhs; whnf)
        · exact hwi
      simp only [put_lit, put_none, List.set_cons_succ, List.set_cons_zero]
      exact Oblig.nil
    case h0 =>
      exact (Keep.refl _ _).drew
    case hend =>
      intro S wx hwi hall
      obtain ⟨w1, rfl⟩ : ∃ w1 : World, w1 = wx := ⟨_, rfl⟩
      have HY1 := hid (hwi.blk HY0.out (fun h => h))
      have HM1 := hid (HM0.out.keep hwi (fun _ _ h => h))
      have HK1 : Hid (Keep0 w w1) := hid (HK0.out.trans hwi (fun _ _ h => h))
      have qy1 := HY1.out.k17
      clear hwi hall HY0 HM0 HK0 qy0
      go_wp2_with fail
      apply wp_region_text (WI := fun S wx => Keep0 w1 wx) (by kernel_rfl) (by kernel_rfl)
      case hob =>
        apply Oblig.cons
        case h =>
          intro S w1 hwi hSi hd hcl
          apply StepOk.intro
          intro K hK
          have qy3 := (hwi.blk HY1.out (fun h => h)).k17
          go_simp
          apply hK
          · rfl
          · conv => (lhs; whnf)
          · exact hwi
        simp only [put_lit, put_none, List.set_cons_succ, List.set_cons_zero]
        apply Oblig.cons
        case h =>
          intro S w1 hwi hSi hd hcl
          apply StepOk.intro
          intro K hK
          have qy3 := (hwi.blk HY1.out (fun h => h)).k17
          go_simp
          apply hK
          · rfl
          · conv => (lhs; whnf)
          · exact hwi
        simp only [put_lit, put_none, List.set_cons_succ, List.set_cons_zero]
        apply Oblig.cons
        case h =>
          intro S w1 hwi hSi hd hcl
          apply StepOk.intro
          intro K hK
          have qy3 := (hwi.blk HY1.out (fun h => h)).k17
          go_simp
          apply hK
          · rfl
          · conv => (lhs; whnf)
          · exact hwi
        simp only [put_lit, put_none, List.set_cons_succ, List.set_cons_zero]
        apply Oblig.cons
        case h =>
          intro S w1 hwi hSi hd hcl
          apply StepOk.intro
          intro K hK
          have qy3 := (hwi.blk HY1.out (fun h => h)).k17
          go_simp
          apply hK
          · rfl
          · conv => (lhs; whnf)
          · exact hwi
        simp only [put_lit, put_none, List.set_cons_succ, List.set_cons_zero]
        apply Oblig.cons
        case h =>
          intro S w1 hwi hSi hd hcl
          apply StepOk.intro
          intro K hK
          have qy3 := (hwi.blk HY1.out (fun h => h)).k17
          go_simp
          apply hK
          · rfl
          · conv => (lhs; whnf)
          · exact hwi
        simp only [put_lit, put_none, List.set_cons_succ, List.set_cons_zero]
        apply Oblig.cons
        case h =>
          intro S w1 hwi hSi hd hcl
          apply StepOk.intro
          intro K hK
          have qy3 := (hwi.blk HY1.out (fun h => h)).k17
          go_simp
          apply hK
          · rfl
          · conv => (lhs; whnf)
          · exact hwi
        simp only [put_lit, put_none, List.set_cons_succ, List.set_cons_zero]
        apply Oblig.cons
        case h =>
          intro S w1 hwi hSi hd hcl
          apply StepOk.intro
          intro K hK
          have qy3 := (hwi.blk HY1.out (fun h => h)).k17
          go_simp
          apply hK
          · rfl
          · conv => (lhs; whnf)
          · exact hwi
        simp only [put_lit, put_none, List.set_cons_succ, List.set_cons_zero]
        apply Oblig.cons
        case h =>
          intro S w1 hwi hSi hd hcl
          apply StepOk.intro
          intro K hK
          have qy3 := (hwi.blk HY1.out (fun h => h)).k17
          go_simp
          apply hK
          · rfl
          · conv => (lhs; whnf)
          · exact hwi
        simp only [put_lit, put_none, List.set_cons_succ, List.set_cons_zero]
        apply Oblig.cons
        case h =>
          intro S w1 hwi hSi hd hcl
          apply StepOk.intro
          intro K hK
          have qy3 := (hwi.blk HY1.out (fun h => h)).k17
          go_simp
          refine (show Calls Try.prog 17 #[.agg #[i64 t, i64 s, i64 g, i64 l, i64 r, i64 k, .slice PA pn pc, .slice LA ln lc], i64 nd] w1 (Ret (i64 av) w1) from by have h := ref_Avail t s g l r k PA pn pc LA ln lc nd w1 hs0 hs1 hv0 hv1; rw [← HAV.out] at h; exact h).mono ?_
          rintro e w2 ⟨rfl, hk⟩
          apply hK
          · rfl
          · conv => (lhs; whnf)
          · exact Keep0.step hwi hk
        simp only [put_lit, put_none, List.set_cons_succ, List.set_cons_zero]
        apply Oblig.cons
        case h =>
          intro S w1 hwi hSi hd hcl
          apply StepOk.intro
          intro K hK
          have qy3 := (hwi.blk HY1.out (fun h => h)).k17
          go_simp
          apply hK
          · rfl
          · conv => (lhs; whnf)
          · exact hwi
        simp only [put_lit, put_none, List.set_cons_succ, List.set_cons_zero]
        exact Oblig.nil
      case h0 =>
        exact (Keep.refl _ _).drew
      case hend =>
        intro S wx hwi hall
        obtain ⟨w2, rfl⟩ : ∃ w2 : World, w2 = wx := ⟨_, rfl⟩
        have HY2 := hid (hwi.blk HY1.out (fun h => h))
        have HM2 := hid (HM1.out.keep hwi (fun _ _ h => h))
        have HK2 : Hid (Keep0 w w2) := hid (HK1.out.trans hwi (fun _ _ h => h))
        have qy2 := HY2.out.k17
        clear hwi hall HY1 HM1 HK1 qy1
        go_wp2_with fail
        obtain ⟨w9, rfl⟩ : ∃ w9 : World, w9 = w2 := ⟨_, rfl⟩
        have HY9 := hid HY2.out
        have HM9 := hid HM2.out
        have HK9 := hid HK2.out
        clear HY2 HM2 HK2
        clear qy2
        have qy9 := HY9.out.k17
        have HY10 := hid (show Blk ((w9).setCell ⟨y, 11, none⟩ (i64 0)) y 94 [i64 2, i64 t, i64 s, i64 g, i64 l, i64 r, i64 k, .slice PA pn pc, .slice LA ln lc, i64 nd, i64 n, i64 (0), i64 (saw), i64 (0), i64 0, .bool false, i64 (0)] from ((HY9.out).set 11 _))
        have HKZ := hid (show Keep (fun k => k = y) w9 ((w9).setCell ⟨y, 11, none⟩ (i64 0)) from (((Keep.refl (fun k => k = y) w9)).set ⟨y, 11, none⟩ _ (fun _ => rfl)))
        clear qy9
        generalize (w9).setCell ⟨y, 11, none⟩ (i64 0) = w10 at *
        have qy10 := HY10.out.k17
        have HM := hid (HM9.out.keep HKZ.out (fun b h => rs_far2 HM9.out HY9.out b h))
        have HK : Hid (Keep (fun b => (b = m ∨ lv.ownBlock = some b) ∨ b = y) w w10) := hid ((HK9.out.mono (fun _ h => h.elim)).trans (HKZ.out.mono (fun _ h => Or.inr h)) (fun _ _ h => h))
        clear HM9 HY9 HK9 HKZ
        apply wp_region_text (WI := fun S wx => Blk wx y 94 [i64 2, i64 t, i64 s, i64 g, i64 l, i64 r, i64 k, .slice PA pn pc, .slice LA ln lc, i64 nd, i64 n, i64 (0), i64 (saw), i64 (0), i64 0, .bool false, i64 (0)] ∧ (S 12 = false → RefAt B wx m A ca lv W L ∧ Keep0 w10 wx) ∧ (S 12 = true → RefPost B w10 m A lv (casW W li saw (saw + n)) (L ++ [⟨3, li, saw, saw + n, false⟩]) wx)) (by kernel_rfl) (by kernel_rfl)
        case hob =>
          apply Oblig.cons
          case h =>
            intro S w1 hwi hSi hd hcl
            apply StepOk.intro
            intro K hK
            have qy5 := hwi.1.k17
            go_simp
            apply hK
            · rfl
            · conv => (lhs; whnf)
            · exact hwi
          simp only [put_lit, put_none, List.set_cons_succ, List.set_cons_zero]
          apply Oblig.cons
          case h =>
            intro S w1 hwi hSi hd hcl
            apply StepOk.intro
            intro K hK
            have qy5 := hwi.1.k17
            go_simp
            apply hK
            · rfl
            · conv => (lhs; whnf)
            · exact hwi
          simp only [put_lit, put_none, List.set_cons_succ, List.set_cons_zero]
          apply Oblig.cons
          case h =>
            intro S w1 hwi hSi hd hcl
            apply StepOk.intro
            intro K hK
            have qy5 := hwi.1.k17
            go_simp
            apply hK
            · rfl
            · conv => (lhs; whnf)
            · exact hwi
          simp only [put_lit, put_none, List.set_cons_succ, List.set_cons_zero]
          apply Oblig.cons
          case h =>
            intro S w1 hwi hSi hd hcl
            apply StepOk.intro
            intro K hK
            have qy5 := hwi.1.k17
            go_simp
            apply hK
            · rfl
            · conv => (lhs; whnf)
            · exact hwi
          simp only [put_lit, put_none, List.set_cons_succ, List.set_cons_zero]
          apply Oblig.cons
          case h =>
            intro S w1 hwi hSi hd hcl
            apply StepOk.intro
            intro K hK
            have qy5 := hwi.1.k17
            go_simp
            apply hK
            · rfl
            · conv => (lhs; whnf)
            · exact hwi
          simp only [put_lit, put_none, List.set_cons_succ, List.set_cons_zero]
          apply Oblig.cons
          case h =>
            intro S w1 hwi hSi hd hcl
            apply StepOk.intro
            intro K hK
            have qy5 := hwi.1.k17
            go_simp
            apply hK
            · rfl
            · conv => (lhs; whnf)
            · exact hwi
          simp only [put_lit, put_none, List.set_cons_succ, List.set_cons_zero]
          apply Oblig.cons
          case h =>
            intro S w1 hwi hSi hd hcl
            apply StepOk.intro
            intro K hK
            have qy5 := hwi.1.k17
            go_simp
            apply hK
            · rfl
            · conv => (lhs; whnf)
            · exact hwi
          simp only [put_lit, put_none, List.set_cons_succ, List.set_cons_zero]
          apply Oblig.cons
          case h =>
            intro S w1 hwi hSi hd hcl
            apply StepOk.intro
            intro K hK
            have qy5 := hwi.1.k17
            go_simp
            apply hK
            · rfl
            · conv => (lhs; whnf)
            · exact hwi
          simp only [put_lit, put_none, List.set_cons_succ, List.set_cons_zero]
          apply Oblig.cons
          case h =>
            intro S w1 hwi hSi hd hcl
            apply StepOk.intro
            intro K hK
            have qy5 := hwi.1.k17
            go_simp
            apply hK
            · rfl
            · conv => (lhs; whnf)
            · exact hwi
          simp only [put_lit, put_none, List.set_cons_succ, List.set_cons_zero]
          apply Oblig.cons
          case h =>
            intro S w1 hwi hSi hd hcl
            apply StepOk.intro
            intro K hK
            have qy5 := hwi.1.k17
            go_simp
            apply hK
            · rfl
            · conv => (lhs; whnf)
            · exact hwi
          simp only [put_lit, put_none, List.set_cons_succ, List.set_cons_zero]
          apply Oblig.cons
          case h =>
            intro S w1 hwi hSi hd hcl
            apply StepOk.intro
            intro K hK
            have qy5 := hwi.1.k17
            go_simp
            apply hK
            · rfl
            · conv => (lhs; whnf)
            · exact hwi
          simp only [put_lit, put_none, List.set_cons_succ, List.set_cons_zero]
          apply Oblig.cons
          case h =>
            intro S w1 hwi hSi hd hcl
            apply StepOk.intro
            intro K hK
            have qy5 := hwi.1.k17
            go_simp
            apply hK
            · rfl
            · conv => (lhs; whnf)
            · exact hwi
          simp only [put_lit, put_none, List.set_cons_succ, List.set_cons_zero]
          apply Oblig.cons
          case h =>
            intro S w1 hwi hSi hd hcl
            apply StepOk.intro
            intro K hK
            have qy5 := hwi.1.k17
            go_simp
            refine (show Calls Try.prog 68 #[ptr m, i64 li, i64 saw, i64 (saw + n)] w1 (fun e w2 => e = .returned (.bool false) ∧ RefPost B w1 m A lv (casW W li saw (saw + n)) (L ++ [⟨3, li, saw, saw + n, false⟩]) w2) from by have h := ref_CasN' li saw (saw + n) (hwi.2.1 hSi).1 (by omega) hW hL; rw [hcb] at h; exact h).mono ?_
            rintro e w2 ⟨rfl, hp⟩
            obtain ⟨Aq, cq, lvq, hq1, hq2, _⟩ := id hp
            have hblk := hq2.blk hwi.1 (rs_far (hwi.2.1 hSi).1 hwi.1)
            have hpp := hp.before (hwi.2.1 hSi).2
            apply hK
            · rfl
            · conv => (lhs; whnf)
            · exact ⟨hblk, fun h => by simp [upd] at h, fun _ => hpp⟩
          simp only [put_lit, put_none, List.set_cons_succ, List.set_cons_zero]
          exact Oblig.nil
        case h0 =>
          exact ⟨HY10.out.drew, fun _ => ⟨HM.out.keep (Keep.refl (fun _ => False) _).drew (fun _ _ h => h), (Keep.refl _ _).drew⟩, fun h => by cases h⟩
        case hend =>
          intro S wx hwi hall
          obtain ⟨w3, rfl⟩ : ∃ w3 : World, w3 = wx := ⟨_, rfl⟩
          obtain ⟨A3, c3, lv3, hm, hk, ha, hl⟩ := hwi.2.2 (hall 12 (by decide))
          have HK3 := hid (HK.out.trans (hk.mono (T := fun b => (b = m ∨ lv.ownBlock = some b) ∨ b = y) (fun _ h => Or.inl h)) (fun _ _ h => h))
          have HM3 := hid hm
          have HY3 := hid hwi.1
          have HA3 := hid (fun b h => (ha b h).imp id (fun h => Nat.le_trans HK.out.size h))
          have HL3 := hid (fun b h => (hl b h).imp id (fun h => Nat.le_trans HK.out.size h))
          have qy3 := HY3.out.k17
          clear hwi hall hm hk ha hl HK HM HY10 qy10
          go_wp2_with fail
          go_ret
          exact rshP_of2 (x' := _) HM3.out HK3.out HA3.out HL3.out HY3.out ((Keep.refl (fun k => k = y) w3)) (HY3.out)
  · have e : sNext 1 li av n ⟨W, L, 1, saw, false⟩ = ⟨casW W li saw (saw + n), L ++ [⟨3, li, saw, saw + n, true⟩], 2, saw, false⟩ := by have h0 := hcb; simp only [beq_iff_eq, beq_eq_false_iff_ne, ne_eq] at h0; simp [sNext, sBy, hcb, h0]
    rw [e]
    clear e
    go_enter Try.func53, Try.ntmps53
    go_wp2_with fail
    apply wp_region_text (WI := fun S wx => Keep0 w wx) (by kernel_rfl) (by kernel_rfl)
    case hob =>
      apply Oblig.cons
      case h =>
        intro S w1 hwi hSi hd hcl
        apply StepOk.intro
        intro K hK
        have qy3 := (hwi.blk HY0.out (fun h => h)).k17
        go_simp
        apply hK
        · rfl
        · conv => (lhs; whnf)
        · exact hwi
      simp only [put_lit, put_none, List.set_cons_succ, List.set_cons_zero]
      apply Oblig.cons
      case h =>
        intro S w1 hwi hSi hd hcl
        apply StepOk.intro
        intro K hK
        have qy3 := (hwi.blk HY0.out (fun h => h)).k17
        go_simp
        apply hK
        · rfl
        · conv => (lhs; whnf)
        · exact hwi
      simp only [put_lit, put_none, List.set_cons_succ, List.set_cons_zero]
      apply Oblig.cons
      case h =>
        intro S w1 hwi hSi hd hcl
        apply StepOk.intro
        intro K hK
        have qy3 := (hwi.blk HY0.out (fun h => h)).k17
        go_simp
        apply hK
        · rfl
        · conv => (lhs; whnf)
        · exact hwi
      simp only [put_lit, put_none, List.set_cons_succ, List.set_cons_zero]
      apply Oblig.cons
      case h =>
        intro S w1 hwi hSi hd hcl
        apply StepOk.intro
        intro K hK
        have qy3 := (hwi.blk HY0.out (fun h => h)).k17
        go_simp
        apply hK
        · rfl
        · conv => (lhs; whnf)
        · exact hwi
      simp only [put_lit, put_none, List.set_cons_succ, List.set_cons_zero]
      apply Oblig.cons
      case h =>
        intro S w1 hwi hSi hd hcl
        apply StepOk.intro
        intro K hK
        have qy3 := (hwi.blk HY0.out (fun h => h)).k17
        go_simp
        apply hK
        · rfl
        · conv => (lhs; whnf)
        · exact hwi
      simp only [put_lit, put_none, List.set_cons_succ, List.set_cons_zero]
      apply Oblig.cons
      case h =>
        intro S w1 hwi hSi hd hcl
        apply StepOk.intro
        intro K hK
        have qy3 := (hwi.blk HY0.out (fun h => h)).k17
        go_simp
        apply hK
        · rfl
        · conv => (lhs; whnf)
        · exact hwi
      simp only [put_lit, put_none, List.set_cons_succ, List.set_cons_zero]
      apply Oblig.cons
      case h =>
        intro S w1 hwi hSi hd hcl
        apply StepOk.intro
        intro K hK
        have qy3 := (hwi.blk HY0.out (fun h => h)).k17
        go_simp
        apply hK
        · rfl
        · conv => (lhs; whnf)
        · exact hwi
      simp only [put_lit, put_none, List.set_cons_succ, List.set_cons_zero]
      apply Oblig.cons
      case h =>
        intro S w1 hwi hSi hd hcl
        apply StepOk.intro
        intro K hK
        have qy3 := (hwi.blk HY0.out (fun h => h)).k17
        go_simp
        apply hK
        · rfl
        · conv => (lhs; whnf)
        · exact hwi
      simp only [put_lit, put_none, List.set_cons_succ, List.set_cons_zero]
      apply Oblig.cons
      case h =>
        intro S w1 hwi hSi hd hcl
        apply StepOk.intro
        intro K hK
        have qy3 := (hwi.blk HY0.out (fun h => h)).k17
        go_simp
        refine (show Calls Try.prog 16 #[.agg #[i64 t, i64 s, i64 g, i64 l, i64 r, i64 k, .slice PA pn pc, .slice LA ln lc], i64 nd] w1 (Ret (i64 li) w1) from by have h := ref_Limit t s g l r k PA pn pc LA ln lc nd w1 hs0 hs1 hv0 hv1; rw [← HLI.out] at h; exact h).mono ?_
        rintro e w2 ⟨rfl, hk⟩
        apply hK
        · rfl
        · conv => (lhs; whnf)
        · exact Keep0.step hwi hk
      simp only [put_lit, put_none, List.set_cons_succ, List.set_cons_zero]
      apply Oblig.cons
      case h =>
        intro S w1 hwi hSi hd hcl
        apply StepOk.intro
        intro K hK
        have qy3 := (hwi.blk HY0.out (fun h => h)).k17
        go_simp
        apply hK
        · rfl
        · conv => (lhs; whnf)
        · exact hwi
      simp only [put_lit, put_none, List.set_cons_succ, List.set_cons_zero]
      exact Oblig.nil
    case h0 =>
      exact (Keep.refl _ _).drew
    case hend =>
      intro S wx hwi hall
      obtain ⟨w1, rfl⟩ : ∃ w1 : World, w1 = wx := ⟨_, rfl⟩
      have HY1 := hid (hwi.blk HY0.out (fun h => h))
      have HM1 := hid (HM0.out.keep hwi (fun _ _ h => h))
      have HK1 : Hid (Keep0 w w1) := hid (HK0.out.trans hwi (fun _ _ h => h))
      have qy1 := HY1.out.k17
      clear hwi hall HY0 HM0 HK0 qy0
      go_wp2_with fail
      apply wp_region_text (WI := fun S wx => Keep0 w1 wx) (by kernel_rfl) (by kernel_rfl)
      case hob =>
        apply Oblig.cons
        case h =>
          intro S w1 hwi hSi hd hcl
          apply StepOk.intro
          intro K hK
          have qy3 := (hwi.blk HY1.out (fun h => h)).k17
          go_simp
          apply hK
          · rfl
          · conv => (lhs; whnf)
          · exact hwi
        simp only [put_lit, put_none, List.set_cons_succ, List.set_cons_zero]
        apply Oblig.cons
        case h =>
          intro S w1 hwi hSi hd hcl
          apply StepOk.intro
          intro K hK
          have qy3 := (hwi.blk HY1.out (fun h => h)).k17
          go_simp
          apply hK
          · rfl
          · conv => (lhs; whnf)
          · exact hwi
        simp only [put_lit, put_none, List.set_cons_succ, List.set_cons_zero]
        apply Oblig.cons
        case h =>
          intro S w1 hwi hSi hd hcl
          apply StepOk.intro
          intro K hK
          have qy3 := (hwi.blk HY1.out (fun h => h)).k17
          go_simp
          apply hK
          · rfl
          · conv => (lhs; whnf)
          · exact hwi
        simp only [put_lit, put_none, List.set_cons_succ, List.set_cons_zero]
        apply Oblig.cons
        case h =>
          intro S w1 hwi hSi hd hcl
          apply StepOk.intro
          intro K hK
          have qy3 := (hwi.blk HY1.out (fun h => h)).k17
          go_simp
          apply hK
          · rfl
          · conv => (lhs; whnf)
          · exact hwi
        simp only [put_lit, put_none, List.set_cons_succ, List.set_cons_zero]
        apply Oblig.cons
        case h =>
          intro S w1 hwi hSi hd hcl
          apply StepOk.intro
          intro K hK
          have qy3 := (hwi.blk HY1.out (fun h => h)).k17
          go_simp
          apply hK
          · rfl
          · conv => (lhs; whnf)
          · exact hwi
        simp only [put_lit, put_none, List.set_cons_succ, List.set_cons_zero]
        apply Oblig.cons
        case h =>
          intro S w1 hwi hSi hd hcl
          apply StepOk.intro
          intro K hK
          have qy3 := (hwi.blk HY1.out (fun h => h)).k17
          go_simp
          apply hK
          · rfl
          · conv => (lhs; whnf)
          · exact hwi
        simp only [put_lit, put_none, List.set_cons_succ, List.set_cons_zero]
        apply Oblig.cons
        case h =>
          intro S w1 hwi hSi hd hcl
          apply StepOk.intro
          intro K hK
          have qy3 := (hwi.blk HY1.out (fun h => h)).k17
          go_simp
          apply hK
          · rfl
          · conv => (lhs; whnf)
          · exact hwi
        simp only [put_lit, put_none, List.set_cons_succ, List.set_cons_zero]
        apply Oblig.cons
        case h =>
          intro S w1 hwi hSi hd hcl
          apply StepOk.intro
          intro K hK
          have qy3 := (hwi.blk HY1.out (fun h => h)).k17
          go_simp
          apply hK
          · rfl
          · conv => (lhs; whnf)
          · exact hwi
        simp only [put_lit, put_none, List.set_cons_succ, List.set_cons_zero]
        apply Oblig.cons
        case h =>
          intro S w1 hwi hSi hd hcl
          apply StepOk.intro
          intro K hK
          have qy3 := (hwi.blk HY1.out (fun h => h)).k17
          go_simp
          refine (show Calls Try.prog 17 #[.agg #[i64 t, i64 s, i64 g, i64 l, i64 r, i64 k, .slice PA pn pc, .slice LA ln lc], i64 nd] w1 (Ret (i64 av) w1) from by have h := ref_Avail t s g l r k PA pn pc LA ln lc nd w1 hs0 hs1 hv0 hv1; rw [← HAV.out] at h; exact h).mono ?_
          rintro e w2 ⟨rfl, hk⟩
          apply hK
          · rfl
          · conv => (lhs; whnf)
          · exact Keep0.step hwi hk
        simp only [put_lit, put_none, List.set_cons_succ, List.set_cons_zero]
        apply Oblig.cons
        case h =>
          intro S w1 hwi hSi hd hcl
          apply StepOk.intro
          intro K hK
          have qy3 := (hwi.blk HY1.out (fun h => h)).k17
          go_simp
          apply hK
          · rfl
          · conv => (lhs; whnf)
          · exact hwi
        simp only [put_lit, put_none, List.set_cons_succ, List.set_cons_zero]
        exact Oblig.nil
      case h0 =>
        exact (Keep.refl _ _).drew
      case hend =>
        intro S wx hwi hall
        obtain ⟨w2, rfl⟩ : ∃ w2 : World, w2 = wx := ⟨_, rfl⟩
        have HY2 := hid (hwi.blk HY1.out (fun h => h))
        have HM2 := hid (HM1.out.keep hwi (fun _ _ h => h))
        have HK2 : Hid (Keep0 w w2) := hid (HK1.out.trans hwi (fun _ _ h => h))
        have qy2 := HY2.out.k17
        clear hwi hall HY1 HM1 HK1 qy1
        go_wp2_with fail
        obtain ⟨w9, rfl⟩ : ∃ w9 : World, w9 = w2 := ⟨_, rfl⟩
        have HY9 := hid HY2.out
        have HM9 := hid HM2.out
        have HK9 := hid HK2.out
        clear HY2 HM2 HK2
        clear qy2
        have qy9 := HY9.out.k17
        have HY10 := hid (show Blk ((w9).setCell ⟨y, 11, none⟩ (i64 0)) y 94 [i64 2, i64 t, i64 s, i64 g, i64 l, i64 r, i64 k, .slice PA pn pc, .slice LA ln lc, i64 nd, i64 n, i64 (0), i64 (saw), i64 (0), i64 0, .bool false, i64 (0)] from ((HY9.out).set 11 _))
        have HKZ := hid (show Keep (fun k => k = y) w9 ((w9).setCell ⟨y, 11, none⟩ (i64 0)) from (((Keep.refl (fun k => k = y) w9)).set ⟨y, 11, none⟩ _ (fun _ => rfl)))
        clear qy9
        generalize (w9).setCell ⟨y, 11, none⟩ (i64 0) = w10 at *
        have qy10 := HY10.out.k17
        have HM := hid (HM9.out.keep HKZ.out (fun b h => rs_far2 HM9.out HY9.out b h))
        have HK : Hid (Keep (fun b => (b = m ∨ lv.ownBlock = some b) ∨ b = y) w w10) := hid ((HK9.out.mono (fun _ h => h.elim)).trans (HKZ.out.mono (fun _ h => Or.inr h)) (fun _ _ h => h))
        clear HM9 HY9 HK9 HKZ
        apply wp_region_text (WI := fun S wx => Blk wx y 94 [i64 2, i64 t, i64 s, i64 g, i64 l, i64 r, i64 k, .slice PA pn pc, .slice LA ln lc, i64 nd, i64 n, i64 (0), i64 (saw), i64 (0), i64 0, .bool false, i64 (0)] ∧ (S 12 = false → RefAt B wx m A ca lv W L ∧ Keep0 w10 wx) ∧ (S 12 = true → RefPost B w10 m A lv (casW W li saw (saw + n)) (L ++ [⟨3, li, saw, saw + n, true⟩]) wx)) (by kernel_rfl) (by kernel_rfl)
        case hob =>
          apply Oblig.cons
          case h =>
            intro S w1 hwi hSi hd hcl
            apply StepOk.intro
            intro K hK
            have qy5 := hwi.1.k17
            go_simp
            apply hK
            · rfl
            · conv => (lhs; whnf)
            · exact hwi
          simp only [put_lit, put_none, List.set_cons_succ, List.set_cons_zero]
          apply Oblig.cons
          case h =>
            intro S w1 hwi hSi hd hcl
            apply StepOk.intro
            intro K hK
            have qy5 := hwi.1.k17
            go_simp
            apply hK
            · rfl
            · conv => (lhs; whnf)
            · exact hwi
          simp only [put_lit, put_none, List.set_cons_succ, List.set_cons_zero]
          apply Oblig.cons
          case h =>
            intro S w1 hwi hSi hd hcl
            apply StepOk.intro
            intro K hK
            have qy5 := hwi.1.k17
            go_simp
            apply hK
            · rfl
            · conv => (lhs; whnf)
            · exact hwi
          simp only [put_lit, put_none, List.set_cons_succ, List.set_cons_zero]
          apply Oblig.cons
          case h =>
            intro S w1 hwi hSi hd hcl
            apply StepOk.intro
            intro K hK
            have qy5 := hwi.1.k17
            go_simp
            apply hK
            · rfl
            · conv => (lhs; whnf)
            · exact hwi
          simp only [put_lit, put_none, List.set_cons_succ, List.set_cons_zero]
          apply Oblig.cons
          case h =>
            intro S w1 hwi hSi hd hcl
            apply StepOk.intro
            intro K hK
            have qy5 := hwi.1.k17
            go_simp
            apply hK
            · rfl
            · conv => (lhs; whnf)
            · exact hwi
          simp only [put_lit, put_none, List.set_cons_succ, List.set_cons_zero]
          apply Oblig.cons
          case h =>
            intro S w1 hwi hSi hd hcl
            apply StepOk.intro
            intro K hK
            have qy5 := hwi.1.k17
            go_simp
            apply hK
            · rfl
            · conv => (lhs; whnf)
            · exact hwi
          simp only [put_lit, put_none, List.set_cons_succ, List.set_cons_zero]
          apply Oblig.cons
          case h =>
            intro S w1 hwi hSi hd hcl
            apply StepOk.intro
            intro K hK
            have qy5 := hwi.1.k17
            go_simp
            apply hK
            · rfl
            · conv => (lhs; whnf)
            · exact hwi
          simp only [put_lit, put_none, List.set_cons_succ, List.set_cons_zero]
          apply Oblig.cons
          case h =>
            intro S w1 hwi hSi hd hcl
            apply StepOk.intro
            intro K hK
            have qy5 := hwi.1.k17
            go_simp
            apply hK
            · rfl
            · conv => (lhs; whnf)
            · exact hwi
          simp only [put_lit, put_none, List.set_cons_succ, List.set_cons_zero]
          apply Oblig.cons
          case h =>
            intro S w1 hwi hSi hd hcl
            apply StepOk.intro
            intro K hK
            have qy5 := hwi.1.k17
            go_simp
            apply hK
            · rfl
            · conv => (lhs; whnf)
            · exact hwi
          simp only [put_lit, put_none, List.set_cons_succ, List.set_cons_zero]
          apply Oblig.cons
          case h =>
            intro S w1 hwi hSi hd hcl
            apply StepOk.intro
            intro K hK
            have qy5 := hwi.1.k17
            go_simp
            apply hK
            · rfl
            · conv => (lhs; whnf)
            · exact hwi
          simp only [put_lit, put_none, List.set_cons_succ, List.set_cons_zero]
          apply Oblig.cons
          case h =>
            intro S w1 hwi hSi hd hcl
            apply StepOk.intro
            intro K hK
            have qy5 := hwi.1.k17
            go_simp
            apply hK
            · rfl
            · conv => (lhs; whnf)
            · exact hwi
          simp only [put_lit, put_none, List.set_cons_succ, List.set_cons_zero]
          apply Oblig.cons
          case h =>
            intro S w1 hwi hSi hd hcl
            apply StepOk.intro
            intro K hK
            have qy5 := hwi.1.k17
            go_simp
            apply hK
            · rfl
            · conv => (lhs; whnf)
            · exact hwi
          simp only [put_lit, put_none, List.set_cons_succ, List.set_cons_zero]
          apply Oblig.cons
          case h =>
            intro S w1 hwi hSi hd hcl
            apply StepOk.intro
            intro K hK
            have qy5 := hwi.1.k17
            go_simp
            refine (show Calls Try.prog 68 #[ptr m, i64 li, i64 saw, i64 (saw + n)] w1 (fun e w2 => e = .returned (.bool true) ∧ RefPost B w1 m A lv (casW W li saw (saw + n)) (L ++ [⟨3, li, saw, saw + n, true⟩]) w2) from by have h := ref_CasN' li saw (saw + n) (hwi.2.1 hSi).1 (by omega) hW hL; rw [hcb] at h; exact h).mono ?_
            rintro e w2 ⟨rfl, hp⟩
            obtain ⟨Aq, cq, lvq, hq1, hq2, _⟩ := id hp
            have hblk := hq2.blk hwi.1 (rs_far (hwi.2.1 hSi).1 hwi.1)
            have hpp := hp.before (hwi.2.1 hSi).2
            apply hK
            · rfl
            · conv => (lhs; whnf)
            · exact ⟨hblk, fun h => by simp [upd] at h, fun _ => hpp⟩
          simp only [put_lit, put_none, List.set_cons_succ, List.set_cons_zero]
          exact Oblig.nil
        case h0 =>
          exact ⟨HY10.out.drew, fun _ => ⟨HM.out.keep (Keep.refl (fun _ => False) _).drew (fun _ _ h => h), (Keep.refl _ _).drew⟩, fun h => by cases h⟩
        case hend =>
          intro S wx hwi hall
          obtain ⟨w3, rfl⟩ : ∃ w3 : World, w3 = wx := ⟨_, rfl⟩
          obtain ⟨A3, c3, lv3, hm, hk, ha, hl⟩ := hwi.2.2 (hall 12 (by decide))
          have HK3 := hid (HK.out.trans (hk.mono (T := fun b => (b = m ∨ lv.ownBlock = some b) ∨ b = y) (fun _ h => Or.inl h)) (fun _ _ h => h))
          have HM3 := hid hm
          have HY3 := hid hwi.1
          have HA3 := hid (fun b h => (ha b h).imp id (fun h => Nat.le_trans HK.out.size h))
          have HL3 := hid (fun b h => (hl b h).imp id (fun h => Nat.le_trans HK.out.size h))
          have qy3 := HY3.out.k17
          clear hwi hall hm hk ha hl HK HM HY10 qy10
          go_wp2_with fail
          go_ret
          exact rshP_of2 (x' := _) HM3.out HK3.out HA3.out HL3.out HY3.out (((Keep.refl (fun k => k = y) w3)).set ⟨y, 11, none⟩ _ (fun _ => rfl)) ((HY3.out).set 11 _)
set_option maxHeartbeats 4000000 in
theorem rsh_step21 {saw : Int} {W : List Int} {L : List Acc} (hm : RefAt B w m A ca lv W L) (hy : Blk w y 94 [i64 3, i64 t, i64 s, i64 g, i64 l, i64 r, i64 k, .slice PA pn pc, .slice LA ln lc, i64 nd, i64 n, i64 (1), i64 (saw), i64 (0), i64 0, .bool false, i64 (0)]) (h1 : li < W.length) (h2 : av < W.length) (hne : li ≠ av) (hn : 1 ≤ n ∧ n ≤ 1048576) (hb1 : -4398046511104 ≤ rd W li ∧ rd W li ≤ 4398046511104) (hb2 : -4398046511104 ≤ rd W av ∧ rd W av ≤ 4398046511104) (hb3 : -4398046511104 ≤ saw ∧ saw ≤ 4398046511104) (hL : L.length ≤ 1000000000) (hW : W.length ≤ 1000000) (hs0 : 1 ≤ s) (hs1 : s ≤ 8) (hv0 : 0 ≤ nd) (hv1 : nd ≤ 1000) (hli : (li : Int) = nd * (6 + 2 * s)) (hav : (av : Int) = nd * (6 + 2 * s) + 1) :
    Calls Try.prog 53 #[ptr y, ptr m] w (RShP B w m A lv y 2 t s g l r k PA pn pc LA ln lc nd n (sNext 2 av li n ⟨W, L, 1, saw, false⟩)) := by
  have HY0 : Hid (Blk w y 94 [i64 3, i64 t, i64 s, i64 g, i64 l, i64 r, i64 k, .slice PA pn pc, .slice LA ln lc, i64 nd, i64 n, i64 (1), i64 (saw), i64 (0), i64 0, .bool false, i64 (0)]) := hid hy
  have qy0 := HY0.out.k17
  have HM0 := hid hm
  have HLI := hid hli
  have HAV := hid hav
  have HK0 : Hid (Keep0 w w) := hid (Keep.refl _ _)
  obtain ⟨w0, hw0⟩ : ∃ w0 : World, w0 = w := ⟨_, rfl⟩
  have ym : IntKind.i64.wrap (-n) = -n := IntWalk.i64_in _ (by omega)
  have ya : IntKind.i64.wrap (saw + n) = saw + n := IntWalk.i64_in _ (by omega)
  have yb : IntKind.i64.wrap (saw + -n) = saw + -n := IntWalk.i64_in _ (by omega)
  have yc : IntKind.i64.wrap (saw - n) = saw + -n := by rw [Int.sub_eq_add_neg]; exact yb
  have yd : IntKind.i64.wrap (rd W li + n) = rd W li + n := IntWalk.i64_in _ (by omega)
  clear hy hm hli hav
  cases hcb : (rd W av == saw)
  · have e : sNext 2 av li n ⟨W, L, 1, saw, false⟩ = ⟨casW W av saw (saw + -n), L ++ [⟨3, av, saw, saw + -n, false⟩], 0, saw, false⟩ := by have h0 := hcb; simp only [beq_iff_eq, beq_eq_false_iff_ne, ne_eq] at h0; simp [sNext, sBy, hcb, h0]
    rw [e]
    clear e
    go_enter Try.func53, Try.ntmps53
    go_wp2_with fail
    apply wp_region_text (WI := fun S wx => Keep0 w wx) (by kernel_rfl) (by kernel_rfl)
    case hob =>
      apply Oblig.cons
      case h =>
        intro S w1 hwi hSi hd hcl
        apply StepOk.intro
        intro K hK
        have qy3 := (hwi.blk HY0.out (fun h => h)).k17
        go_simp
        apply hK
        · rfl
        · conv => (lhs; whnf)
        · exact hwi
      simp only [put_lit, put_none, List.set_cons_succ, List.set_cons_zero]
      apply Oblig.cons
      case h =>
        intro S w1 hwi hSi hd hcl
        apply StepOk.intro
        intro K hK
        have qy3 := (hwi.blk HY0.out (fun h => h)).k17
        go_simp
        apply hK
        · rfl
        · conv => (lhs; whnf)
        · exact hwi
      simp only [put_lit, put_none, List.set_cons_succ, List.set_cons_zero]
      apply Oblig.cons
      case h =>
        intro S w1 hwi hSi hd hcl
        apply StepOk.intro
        intro K hK
        have qy3 := (hwi.blk HY0.out (fun h => h)).k17
        go_simp
        apply hK
        · rfl
        · conv => (lhs; whnf)
        · exact hwi
      simp only [put_lit, put_none, List.set_cons_succ, List.set_cons_zero]
      apply Oblig.cons
      case h =>
        intro S w1 hwi hSi hd hcl
        apply StepOk.intro
        intro K hK
        have qy3 := (hwi.blk HY0.out (fun h => h)).k17
        go_simp
        apply hK
        · rfl
        · conv => (lhs; whnf)
        · exact hwi
      simp only [put_lit, put_none, List.set_cons_succ, List.set_cons_zero]
      apply Oblig.cons
      case h =>
        intro S w1 hwi hSi hd hcl
        apply StepOk.intro
        intro K hK
        have qy3 := (hwi.blk HY0.out (fun h => h)).k17
        go_simp
        apply hK
        · rfl
        · conv => (lhs; whnf)
        · exact hwi
      simp only [put_lit, put_none, List.set_cons_succ, List.set_cons_zero]
      apply Oblig.cons
      case h =>
        intro S w1 hwi hSi hd hcl
        apply StepOk.intro
        intro K hK
        have qy3 := (hwi.blk HY0.out (fun h => h)).k17
        go_simp
        apply hK
        · rfl
        · conv => (lhs; whnf)
        · exact hwi
      simp only [put_lit, put_none, List.set_cons_succ, List.set_cons_zero]
      apply Oblig.cons
      case h =>
        intro S w1 hwi hSi hd hcl
        apply StepOk.intro
        intro K hK
        have qy3 := (hwi.blk HY0.out (fun h => h)).k17
        go_simp
        apply hK
        · rfl
        · conv => (lhs; whnf)
        · exact hwi
      simp only [put_lit, put_none, List.set_cons_succ, List.set_cons_zero]
      apply Oblig.cons
      case h =>
        intro S w1 hwi hSi hd hcl
        apply StepOk.intro
        intro K hK
        have qy3 := (hwi.blk HY0.out (fun h => h)).k17
        go_simp
        apply hK
        · rfl
        · conv => (lhs; whnf)
        · exact hwi
      simp only [put_lit, put_none, List.set_cons_succ, List.set_cons_zero]
      apply Oblig.cons
      case h =>
        intro S w1 hwi hSi hd hcl
        apply StepOk.intro
        intro K hK
        have qy3 := (hwi.blk HY0.out (fun h => h)).k17
        go_simp
        refine (show Calls Try.prog 16 #[.agg #[i64 t, i64 s, i64 g, i64 l, i64 r, i64 k, .slice PA pn pc, .slice LA ln lc], i64 nd] w1 (Ret (i64 li) w1) from by have h := ref_Limit t s g l r k PA pn pc LA ln lc nd w1 hs0 hs1 hv0 hv1; rw [← HLI.out] at h; exact h).mono ?_
        rintro e w2 ⟨rfl, hk⟩
        apply hK
        · rfl
        · conv => (lhs; whnf)
        · exact Keep0.step hwi hk
      simp only [put_lit, put_none, List.set_cons_succ, List.set_cons_zero]
      apply Oblig.cons
      case h =>
        intro S w1 hwi hSi hd hcl
        apply StepOk.intro
        intro K hK
        have qy3 := (hwi.blk HY0.out (fun h => h)).k17
        go_simp
        apply hK
        · rfl
        · conv => (lhs; whnf)
        · exact hwi
      simp only [put_lit, put_none, List.set_cons_succ, List.set_cons_zero]
      exact Oblig.nil
    case h0 =>
      exact (Keep.refl _ _).drew
    case hend =>
      intro S wx hwi hall
      obtain ⟨w1, rfl⟩ : ∃ w1 : World, w1 = wx := ⟨_, rfl⟩
      have HY1 := hid (hwi.blk HY0.out (fun h => h))
      have HM1 := hid (HM0.out.keep hwi (fun _ _ h => h))
      have HK1 : Hid (Keep0 w w1) := hid (HK0.out.trans hwi (fun _ _ h => h))
      have qy1 := HY1.out.k17
      clear hwi hall HY0 HM0 HK0 qy0
      go_wp2_with fail
      apply wp_region_text (WI := fun S wx => Keep0 w1 wx) (by kernel_rfl) (by kernel_rfl)
      case hob =>
        apply Oblig.cons
        case h =>
          intro S w1 hwi hSi hd hcl
          apply StepOk.intro
          intro K hK
          have qy3 := (hwi.blk HY1.out (fun h => h)).k17
          go_simp
          apply hK
          · rfl
          · conv => (lhs; whnf)
          · exact hwi
        simp only [put_lit, put_none, List.set_cons_succ, List.set_cons_zero]
        apply Oblig.cons
        case h =>
          intro S w1 hwi hSi hd hcl
          apply StepOk.intro
          intro K hK
          have qy3 := (hwi.blk HY1.out (fun h => h)).k17
          go_simp
          apply hK
          · rfl
          · conv => (lhs; whnf)
          · exact hwi
        simp only [put_lit, put_none, List.set_cons_succ, List.set_cons_zero]
        apply Oblig.cons
        case h =>
          intro S w1 hwi hSi hd hcl
          apply StepOk.intro
          intro K hK
          have qy3 := (hwi.blk HY1.out (fun h => h)).k17
          go_simp
          apply hK
          · rfl
          · conv => (lhs; whnf)
          · exact hwi
        simp only [put_lit, put_none, List.set_cons_succ, List.set_cons_zero]
        apply Oblig.cons
        case h =>
          intro S w1 hwi hSi hd hcl
          apply StepOk.intro
          intro K hK
          have qy3 := (hwi.blk HY1.out (fun h => h)).k17
          go_simp
          apply hK
          · rfl
          · conv => (lhs; whnf)
          · exact hwi
        simp only [put_lit, put_none, List.set_cons_succ, List.set_cons_zero]
        apply Oblig.cons
        case h =>
          intro S w1 hwi hSi hd hcl
          apply StepOk.intro
          intro K hK
          have qy3 := (hwi.blk HY1.out (fun h => h)).k17
          go_simp
          apply hK
          · rfl
          · conv => (lhs; whnf)
          · exact hwi
        simp only [put_lit, put_none, List.set_cons_succ, List.set_cons_zero]
        apply Oblig.cons
        case h =>
          intro S w1 hwi hSi hd hcl
          apply StepOk.intro
          intro K hK
          have qy3 := (hwi.blk HY1.out (fun h => h)).k17
          go_simp
          apply hK
          · rfl
          · conv => (lhs; whnf)
          · exact hwi
        simp only [put_lit, put_none, List.set_cons_succ, List.set_cons_zero]
        apply Oblig.cons
        case h =>
          intro S w1 hwi hSi hd hcl
          apply StepOk.intro
          intro K hK
          have qy3 := (hwi.blk HY1.out (fun h => h)).k17
          go_simp
          apply hK
          · rfl
          · conv => (lhs; whnf)
          · exact hwi
        simp only [put_lit, put_none, List.set_cons_succ, List.set_cons_zero]
        apply Oblig.cons
        case h =>
          intro S w1 hwi hSi hd hcl
          apply StepOk.intro
          intro K hK
          have qy3 := (hwi.blk HY1.out (fun h => h)).k17
          go_simp
          apply hK
          · rfl
          · conv => (lhs; whnf)
          · exact hwi
        simp only [put_lit, put_none, List.set_cons_succ, List.set_cons_zero]
        apply Oblig.cons
        case h =>
          intro S w1 hwi hSi hd hcl
          apply StepOk.intro
          intro K hK
          have qy3 := (hwi.blk HY1.out (fun h => h)).k17
          go_simp
          refine (show Calls Try.prog 17 #[.agg #[i64 t, i64 s, i64 g, i64 l, i64 r, i64 k, .slice PA pn pc, .slice LA ln lc], i64 nd] w1 (Ret (i64 av) w1) from by have h := ref_Avail t s g l r k PA pn pc LA ln lc nd w1 hs0 hs1 hv0 hv1; rw [← HAV.out] at h; exact h).mono ?_
          rintro e w2 ⟨rfl, hk⟩
          apply hK
          · rfl
          · conv => (lhs; whnf)
          · exact Keep0.step hwi hk
        simp only [put_lit, put_none, List.set_cons_succ, List.set_cons_zero]
        apply Oblig.cons
        case h =>
          intro S w1 hwi hSi hd hcl
          apply StepOk.intro
          intro K hK
          have qy3 := (hwi.blk HY1.out (fun h => h)).k17
          go_simp
          apply hK
          · rfl
          · conv => (lhs; whnf)
          · exact hwi
        simp only [put_lit, put_none, List.set_cons_succ, List.set_cons_zero]
        exact Oblig.nil
      case h0 =>
        exact (Keep.refl _ _).drew
      case hend =>
        intro S wx hwi hall
        obtain ⟨w2, rfl⟩ : ∃ w2 : World, w2 = wx := ⟨_, rfl⟩
        have HY2 := hid (hwi.blk HY1.out (fun h => h))
        have HM2 := hid (HM1.out.keep hwi (fun _ _ h => h))
        have HK2 : Hid (Keep0 w w2) := hid (HK1.out.trans hwi (fun _ _ h => h))
        have qy2 := HY2.out.k17
        clear hwi hall HY1 HM1 HK1 qy1
        go_wp2_with fail
        apply wp_region_text (WI := fun S wx => Keep0 w2 wx) (by kernel_rfl) (by kernel_rfl)
        case hob =>
          apply Oblig.cons
          case h =>
            intro S w1 hwi hSi hd hcl
            apply StepOk.intro
            intro K hK
            have qy3 := (hwi.blk HY2.out (fun h => h)).k17
            go_simp
            apply hK
            · rfl
            · conv => (lhs; whnf)
            · exact hwi
          simp only [put_lit, put_none, List.set_cons_succ, List.set_cons_zero]
          apply Oblig.cons
          case h =>
            intro S w1 hwi hSi hd hcl
            apply StepOk.intro
            intro K hK
            have qy3 := (hwi.blk HY2.out (fun h => h)).k17
            go_simp
            apply hK
            · rfl
            · conv => (lhs; whnf)
            · exact hwi
          simp only [put_lit, put_none, List.set_cons_succ, List.set_cons_zero]
          apply Oblig.cons
          case h =>
            intro S w1 hwi hSi hd hcl
            apply StepOk.intro
            intro K hK
            have qy3 := (hwi.blk HY2.out (fun h => h)).k17
            go_simp
            apply hK
            · rfl
            · conv => (lhs; whnf)
            · exact hwi
          simp only [put_lit, put_none, List.set_cons_succ, List.set_cons_zero]
          apply Oblig.cons
          case h =>
            intro S w1 hwi hSi hd hcl
            apply StepOk.intro
            intro K hK
            have qy3 := (hwi.blk HY2.out (fun h => h)).k17
            go_simp
            apply hK
            · rfl
            · conv => (lhs; whnf)
            · exact hwi
          simp only [put_lit, put_none, List.set_cons_succ, List.set_cons_zero]
          apply Oblig.cons
          case h =>
            intro S w1 hwi hSi hd hcl
            apply StepOk.intro
            intro K hK
            have qy3 := (hwi.blk HY2.out (fun h => h)).k17
            go_simp
            apply hK
            · rfl
            · conv => (lhs; whnf)
            · exact hwi
          simp only [put_lit, put_none, List.set_cons_succ, List.set_cons_zero]
          apply Oblig.cons
          case h =>
            intro S w1 hwi hSi hd hcl
            apply StepOk.intro
            intro K hK
            have qy3 := (hwi.blk HY2.out (fun h => h)).k17
            go_simp
            apply hK
            · rfl
            · conv => (lhs; whnf)
            · exact hwi
          simp only [put_lit, put_none, List.set_cons_succ, List.set_cons_zero]
          apply Oblig.cons
          case h =>
            intro S w1 hwi hSi hd hcl
            apply StepOk.intro
            intro K hK
            have qy3 := (hwi.blk HY2.out (fun h => h)).k17
            go_simp
            apply hK
            · rfl
            · conv => (lhs; whnf)
            · exact hwi
          simp only [put_lit, put_none, List.set_cons_succ, List.set_cons_zero]
          apply Oblig.cons
          case h =>
            intro S w1 hwi hSi hd hcl
            apply StepOk.intro
            intro K hK
            have qy3 := (hwi.blk HY2.out (fun h => h)).k17
            go_simp
            apply hK
            · rfl
            · conv => (lhs; whnf)
            · exact hwi
          simp only [put_lit, put_none, List.set_cons_succ, List.set_cons_zero]
          apply Oblig.cons
          case h =>
            intro S w1 hwi hSi hd hcl
            apply StepOk.intro
            intro K hK
            have qy3 := (hwi.blk HY2.out (fun h => h)).k17
            go_simp
            refine (show Calls Try.prog 17 #[.agg #[i64 t, i64 s, i64 g, i64 l, i64 r, i64 k, .slice PA pn pc, .slice LA ln lc], i64 nd] w1 (Ret (i64 av) w1) from by have h := ref_Avail t s g l r k PA pn pc LA ln lc nd w1 hs0 hs1 hv0 hv1; rw [← HAV.out] at h; exact h).mono ?_
            rintro e w2 ⟨rfl, hk⟩
            apply hK
            · rfl
            · conv => (lhs; whnf)
            · exact Keep0.step hwi hk
          simp only [put_lit, put_none, List.set_cons_succ, List.set_cons_zero]
          apply Oblig.cons
          case h =>
            intro S w1 hwi hSi hd hcl
            apply StepOk.intro
            intro K hK
            have qy3 := (hwi.blk HY2.out (fun h => h)).k17
            go_simp
            apply hK
            · rfl
            · conv => (lhs; whnf)
            · exact hwi
          simp only [put_lit, put_none, List.set_cons_succ, List.set_cons_zero]
          exact Oblig.nil
        case h0 =>
          exact (Keep.refl _ _).drew
        case hend =>
          intro S wx hwi hall
          obtain ⟨w3, rfl⟩ : ∃ w3 : World, w3 = wx := ⟨_, rfl⟩
          have HY3 := hid (hwi.blk HY2.out (fun h => h))
          have HM3 := hid (HM2.out.keep hwi (fun _ _ h => h))
          have HK3 : Hid (Keep0 w w3) := hid (HK2.out.trans hwi (fun _ _ h => h))
          have qy3 := HY3.out.k17
          clear hwi hall HY2 HM2 HK2 qy2
          go_wp2_with fail
          apply wp_region_text (WI := fun S wx => Keep0 w3 wx) (by kernel_rfl) (by kernel_rfl)
          case hob =>
            apply Oblig.cons
            case h =>
              intro S w1 hwi hSi hd hcl
              apply StepOk.intro
              intro K hK
              have qy3 := (hwi.blk HY3.out (fun h => h)).k17
              go_simp
              apply hK
              · rfl
              · conv => (lhs; whnf)
              · exact hwi
            simp only [put_lit, put_none, List.set_cons_succ, List.set_cons_zero]
            apply Oblig.cons
            case h =>
              intro S w1 hwi hSi hd hcl
              apply StepOk.intro
              intro K hK
              have qy3 := (hwi.blk HY3.out (fun h => h)).k17
              go_simp
              apply hK
              · rfl
              · conv => (lhs; whnf)
              · exact hwi
            simp only [put_lit, put_none, List.set_cons_succ, List.set_cons_zero]
            apply Oblig.cons
            case h =>
              intro S w1 hwi hSi hd hcl
              apply StepOk.intro
              intro K hK
              have qy3 := (hwi.blk HY3.out (fun h => h)).k17
              go_simp
              apply hK
              · rfl
              · conv => (lhs; whnf)
              · exact hwi
            simp only [put_lit, put_none, List.set_cons_succ, List.set_cons_zero]
            apply Oblig.cons
            case h =>
              intro S w1 hwi hSi hd hcl
              apply StepOk.intro
              intro K hK
              have qy3 := (hwi.blk HY3.out (fun h => h)).k17
              go_simp
              apply hK
              · rfl
              · conv => (lhs; whnf)
              · exact hwi
            simp only [put_lit, put_none, List.set_cons_succ, List.set_cons_zero]
            apply Oblig.cons
            case h =>
              intro S w1 hwi hSi hd hcl
              apply StepOk.intro
              intro K hK
              have qy3 := (hwi.blk HY3.out (fun h => h)).k17
              go_simp
              apply hK
              · rfl
              · conv => (lhs; whnf)
              · exact hwi
            simp only [put_lit, put_none, List.set_cons_succ, List.set_cons_zero]
            apply Oblig.cons
            case h =>
              intro S w1 hwi hSi hd hcl
              apply StepOk.intro
              intro K hK
              have qy3 := (hwi.blk HY3.out (fun h => h)).k17
              go_simp
              apply hK
              · rfl
              · conv => (lhs; whnf)
              · exact hwi
            simp only [put_lit, put_none, List.set_cons_succ, List.set_cons_zero]
            apply Oblig.cons
            case h =>
              intro S w1 hwi hSi hd hcl
              apply StepOk.intro
              intro K hK
              have qy3 := (hwi.blk HY3.out (fun h => h)).k17
              go_simp
              apply hK
              · rfl
              · conv => (lhs; whnf)
              · exact hwi
            simp only [put_lit, put_none, List.set_cons_succ, List.set_cons_zero]
            apply Oblig.cons
            case h =>
              intro S w1 hwi hSi hd hcl
              apply StepOk.intro
              intro K hK
              have qy3 := (hwi.blk HY3.out (fun h => h)).k17
              go_simp
              apply hK
              · rfl
              · conv => (lhs; whnf)
              · exact hwi
            simp only [put_lit, put_none, List.set_cons_succ, List.set_cons_zero]
            apply Oblig.cons
            case h =>
              intro S w1 hwi hSi hd hcl
              apply StepOk.intro
              intro K hK
              have qy3 := (hwi.blk HY3.out (fun h => h)).k17
              go_simp
              refine (show Calls Try.prog 16 #[.agg #[i64 t, i64 s, i64 g, i64 l, i64 r, i64 k, .slice PA pn pc, .slice LA ln lc], i64 nd] w1 (Ret (i64 li) w1) from by have h := ref_Limit t s g l r k PA pn pc LA ln lc nd w1 hs0 hs1 hv0 hv1; rw [← HLI.out] at h; exact h).mono ?_
              rintro e w2 ⟨rfl, hk⟩
              apply hK
              · rfl
              · conv => (lhs; whnf)
              · exact Keep0.step hwi hk
            simp only [put_lit, put_none, List.set_cons_succ, List.set_cons_zero]
            apply Oblig.cons
            case h =>
              intro S w1 hwi hSi hd hcl
              apply StepOk.intro
              intro K hK
              have qy3 := (hwi.blk HY3.out (fun h => h)).k17
              go_simp
              apply hK
              · rfl
              · conv => (lhs; whnf)
              · exact hwi
            simp only [put_lit, put_none, List.set_cons_succ, List.set_cons_zero]
            exact Oblig.nil
          case h0 =>
            exact (Keep.refl _ _).drew
          case hend =>
            intro S wx hwi hall
            obtain ⟨w4, rfl⟩ : ∃ w4 : World, w4 = wx := ⟨_, rfl⟩
            have HY4 := hid (hwi.blk HY3.out (fun h => h))
            have HM4 := hid (HM3.out.keep hwi (fun _ _ h => h))
            have HK4 : Hid (Keep0 w w4) := hid (HK3.out.trans hwi (fun _ _ h => h))
            have qy4 := HY4.out.k17
            clear hwi hall HY3 HM3 HK3 qy3
            go_wp2_with fail
            obtain ⟨w9, rfl⟩ : ∃ w9 : World, w9 = w4 := ⟨_, rfl⟩
            have HY9 := hid HY4.out
            have HM9 := hid HM4.out
            have HK9 := hid HK4.out
            clear HY4 HM4 HK4
            clear qy4
            have qy9 := HY9.out.k17
            have HY10 := hid (show Blk ((w9).setCell ⟨y, 11, none⟩ (i64 0)) y 94 [i64 3, i64 t, i64 s, i64 g, i64 l, i64 r, i64 k, .slice PA pn pc, .slice LA ln lc, i64 nd, i64 n, i64 (0), i64 (saw), i64 (0), i64 0, .bool false, i64 (0)] from ((HY9.out).set 11 _))
            have HKZ := hid (show Keep (fun k => k = y) w9 ((w9).setCell ⟨y, 11, none⟩ (i64 0)) from (((Keep.refl (fun k => k = y) w9)).set ⟨y, 11, none⟩ _ (fun _ => rfl)))
            clear qy9
            generalize (w9).setCell ⟨y, 11, none⟩ (i64 0) = w10 at *
            have qy10 := HY10.out.k17
            have HM := hid (HM9.out.keep HKZ.out (fun b h => rs_far2 HM9.out HY9.out b h))
            have HK : Hid (Keep (fun b => (b = m ∨ lv.ownBlock = some b) ∨ b = y) w w10) := hid ((HK9.out.mono (fun _ h => h.elim)).trans (HKZ.out.mono (fun _ h => Or.inr h)) (fun _ _ h => h))
            clear HM9 HY9 HK9 HKZ
            apply wp_region_text (WI := fun S wx => Blk wx y 94 [i64 3, i64 t, i64 s, i64 g, i64 l, i64 r, i64 k, .slice PA pn pc, .slice LA ln lc, i64 nd, i64 n, i64 (0), i64 (saw), i64 (0), i64 0, .bool false, i64 (0)] ∧ (S 12 = false → RefAt B wx m A ca lv W L ∧ Keep0 w10 wx) ∧ (S 12 = true → RefPost B w10 m A lv (casW W av saw (saw + -n)) (L ++ [⟨3, av, saw, saw + -n, false⟩]) wx)) (by kernel_rfl) (by kernel_rfl)
            case hob =>
              apply Oblig.cons
              case h =>
                intro S w1 hwi hSi hd hcl
                apply StepOk.intro
                intro K hK
                have qy5 := hwi.1.k17
                go_simp
                apply hK
                · rfl
                · conv => (lhs; whnf)
                · exact hwi
              simp only [put_lit, put_none, List.set_cons_succ, List.set_cons_zero]
              apply Oblig.cons
              case h =>
                intro S w1 hwi hSi hd hcl
                apply StepOk.intro
                intro K hK
                have qy5 := hwi.1.k17
                go_simp
                apply hK
                · rfl
                · conv => (lhs; whnf)
                · exact hwi
              simp only [put_lit, put_none, List.set_cons_succ, List.set_cons_zero]
              apply Oblig.cons
              case h =>
                intro S w1 hwi hSi hd hcl
                apply StepOk.intro
                intro K hK
                have qy5 := hwi.1.k17
                go_simp
                apply hK
                · rfl
                · conv => (lhs; whnf)
                · exact hwi
              simp only [put_lit, put_none, List.set_cons_succ, List.set_cons_zero]
              apply Oblig.cons
              case h =>
                intro S w1 hwi hSi hd hcl
                apply StepOk.intro
                intro K hK
                have qy5 := hwi.1.k17
                go_simp
                apply hK
                · rfl
                · conv => (lhs; whnf)
                · exact hwi
              simp only [put_lit, put_none, List.set_cons_succ, List.set_cons_zero]
              apply Oblig.cons
              case h =>
                intro S w1 hwi hSi hd hcl
                apply StepOk.intro
                intro K hK
                have qy5 := hwi.1.k17
                go_simp
                apply hK
                · rfl
                · conv => (lhs; whnf)
                · exact hwi
              simp only [put_lit, put_none, List.set_cons_succ, List.set_cons_zero]
              apply Oblig.cons
              case h =>
                intro S w1 hwi hSi hd hcl
                apply StepOk.intro
                intro K hK
                have qy5 := hwi.1.k17
                go_simp
                apply hK
                · rfl
                · conv => (lhs; whnf)
                · exact hwi
              simp only [put_lit, put_none, List.set_cons_succ, List.set_cons_zero]
              apply Oblig.cons
              case h =>
                intro S w1 hwi hSi hd hcl
                apply StepOk.intro
                intro K hK
                have qy5 := hwi.1.k17
                go_simp
                apply hK
                · rfl
                · conv => (lhs; whnf)
                · exact hwi
              simp only [put_lit, put_none, List.set_cons_succ, List.set_cons_zero]
              apply Oblig.cons
              case h =>
                intro S w1 hwi hSi hd hcl
                apply StepOk.intro
                intro K hK
                have qy5 := hwi.1.k17
                go_simp
                apply hK
                · rfl
                · conv => (lhs; whnf)
                · exact hwi
              simp only [put_lit, put_none, List.set_cons_succ, List.set_cons_zero]
              apply Oblig.cons
              case h =>
                intro S w1 hwi hSi hd hcl
                apply StepOk.intro
                intro K hK
                have qy5 := hwi.1.k17
                go_simp
                apply hK
                · rfl
                · conv => (lhs; whnf)
                · exact hwi
              simp only [put_lit, put_none, List.set_cons_succ, List.set_cons_zero]
              apply Oblig.cons
              case h =>
                intro S w1 hwi hSi hd hcl
                apply StepOk.intro
                intro K hK
                have qy5 := hwi.1.k17
                go_simp
                apply hK
                · rfl
                · conv => (lhs; whnf)
                · exact hwi
              simp only [put_lit, put_none, List.set_cons_succ, List.set_cons_zero]
              apply Oblig.cons
              case h =>
                intro S w1 hwi hSi hd hcl
                apply StepOk.intro
                intro K hK
                have qy5 := hwi.1.k17
                go_simp
                apply hK
                · rfl
                · conv => (lhs; whnf)
                · exact hwi
              simp only [put_lit, put_none, List.set_cons_succ, List.set_cons_zero]
              apply Oblig.cons
              case h =>
                intro S w1 hwi hSi hd hcl
                apply StepOk.intro
                intro K hK
                have qy5 := hwi.1.k17
                go_simp
                apply hK
                · rfl
                · conv => (lhs; whnf)
                · exact hwi
              simp only [put_lit, put_none, List.set_cons_succ, List.set_cons_zero]
              apply Oblig.cons
              case h =>
                intro S w1 hwi hSi hd hcl
                apply StepOk.intro
                intro K hK
                have qy5 := hwi.1.k17
                go_simp
                refine (show Calls Try.prog 68 #[ptr m, i64 av, i64 saw, i64 (saw + -n)] w1 (fun e w2 => e = .returned (.bool false) ∧ RefPost B w1 m A lv (casW W av saw (saw + -n)) (L ++ [⟨3, av, saw, saw + -n, false⟩]) w2) from by have h := ref_CasN' av saw (saw + -n) (hwi.2.1 hSi).1 (by omega) hW hL; rw [hcb] at h; exact h).mono ?_
                rintro e w2 ⟨rfl, hp⟩
                obtain ⟨Aq, cq, lvq, hq1, hq2, _⟩ := id hp
                have hblk := hq2.blk hwi.1 (rs_far (hwi.2.1 hSi).1 hwi.1)
                have hpp := hp.before (hwi.2.1 hSi).2
                apply hK
                · rfl
                · conv => (lhs; whnf)
                · exact ⟨hblk, fun h => by simp [upd] at h, fun _ => hpp⟩
              simp only [put_lit, put_none, List.set_cons_succ, List.set_cons_zero]
              exact Oblig.nil
            case h0 =>
              exact ⟨HY10.out.drew, fun _ => ⟨HM.out.keep (Keep.refl (fun _ => False) _).drew (fun _ _ h => h), (Keep.refl _ _).drew⟩, fun h => by cases h⟩
            case hend =>
              intro S wx hwi hall
              obtain ⟨w3, rfl⟩ : ∃ w3 : World, w3 = wx := ⟨_, rfl⟩
              obtain ⟨A3, c3, lv3, hm, hk, ha, hl⟩ := hwi.2.2 (hall 12 (by decide))
              have HK3 := hid (HK.out.trans (hk.mono (T := fun b => (b = m ∨ lv.ownBlock = some b) ∨ b = y) (fun _ h => Or.inl h)) (fun _ _ h => h))
              have HM3 := hid hm
              have HY3 := hid hwi.1
              have HA3 := hid (fun b h => (ha b h).imp id (fun h => Nat.le_trans HK.out.size h))
              have HL3 := hid (fun b h => (hl b h).imp id (fun h => Nat.le_trans HK.out.size h))
              have qy3 := HY3.out.k17
              clear hwi hall hm hk ha hl HK HM HY10 qy10
              go_wp2_with fail
              go_ret
              exact rshP_of2 (x' := _) HM3.out HK3.out HA3.out HL3.out HY3.out ((Keep.refl (fun k => k = y) w3)) (HY3.out)
  · have e : sNext 2 av li n ⟨W, L, 1, saw, false⟩ = ⟨casW W av saw (saw + -n), L ++ [⟨3, av, saw, saw + -n, true⟩], 2, saw, false⟩ := by have h0 := hcb; simp only [beq_iff_eq, beq_eq_false_iff_ne, ne_eq] at h0; simp [sNext, sBy, hcb, h0]
    rw [e]
    clear e
    go_enter Try.func53, Try.ntmps53
    go_wp2_with fail
    apply wp_region_text (WI := fun S wx => Keep0 w wx) (by kernel_rfl) (by kernel_rfl)
    case hob =>
      apply Oblig.cons
      case h =>
        intro S w1 hwi hSi hd hcl
        apply StepOk.intro
        intro K hK
        have qy3 := (hwi.blk HY0.out (fun h => h)).k17
        go_simp
        apply hK
        · rfl
        · conv => (lhs; whnf)
        · exact hwi
      simp only [put_lit, put_none, List.set_cons_succ, List.set_cons_zero]
      apply Oblig.cons
      case h =>
        intro S w1 hwi hSi hd hcl
        apply StepOk.intro
        intro K hK
        have qy3 := (hwi.blk HY0.out (fun h => h)).k17
        go_simp
        apply hK
        · rfl
        · conv => (lhs; whnf)
        · exact hwi
      simp only [put_lit, put_none, List.set_cons_succ, List.set_cons_zero]
      apply Oblig.cons
      case h =>
        intro S w1 hwi hSi hd hcl
        apply StepOk.intro
        intro K hK
        have qy3 := (hwi.blk HY0.out (fun h => h)).k17
        go_simp
        apply hK
        · rfl
        · conv => (lhs; whnf)
        · exact hwi
      simp only [put_lit, put_none, List.set_cons_succ, List.set_cons_zero]
      apply Oblig.cons
      case h =>
        intro S w1 hwi hSi hd hcl
        apply StepOk.intro
        intro K hK
        have qy3 := (hwi.blk HY0.out (fun h => h)).k17
        go_simp
        apply hK
        · rfl
        · conv => (lhs; whnf)
        · exact hwi
      simp only [put_lit, put_none, List.set_cons_succ, List.set_cons_zero]
      apply Oblig.cons
      case h =>
        intro S w1 hwi hSi hd hcl
        apply StepOk.intro
        intro K hK
        have qy3 := (hwi.blk HY0.out (fun h => h)).k17
        go_simp
        apply hK
        · rfl
        · conv => (lhs; whnf)
        · exact hwi
      simp only [put_lit, put_none, List.set_cons_succ, List.set_cons_zero]
      apply Oblig.cons
      case h =>
        intro S w1 hwi hSi hd hcl
        apply StepOk.intro
        intro K hK
        have qy3 := (hwi.blk HY0.out (fun h => h)).k17
        go_simp
        apply hK
        · rfl
        · conv => (lhs; whnf)
        · exact hwi
      simp only [put_lit, put_none, List.set_cons_succ, List.set_cons_zero]
      apply Oblig.cons
      case h =>
        intro S w1 hwi hSi hd hcl
        apply StepOk.intro
        intro K hK
        have qy3 := (hwi.blk HY0.out (fun h => h)).k17
        go_simp
        apply hK
        · rfl
        · conv => (lhs; whnf)
        · exact hwi
      simp only [put_lit, put_none, List.set_cons_succ, List.set_cons_zero]
      apply Oblig.cons
      case h =>
        intro S w1 hwi hSi hd hcl
        apply StepOk.intro
        intro K hK
        have qy3 := (hwi.blk HY0.out (fun h => h)).k17
        go_simp
        apply hK
        · rfl
        · conv => (lhs; whnf)
        · exact hwi
      simp only [put_lit, put_none, List.set_cons_succ, List.set_cons_zero]
      apply Oblig.cons
      case h =>
        intro S w1 hwi hSi hd hcl
        apply StepOk.intro
        intro K hK
        have qy3 := (hwi.blk HY0.out (fun h => h)).k17
        go_simp
        refine (show Calls Try.prog 16 #[.agg #[i64 t, i64 s, i64 g, i64 l, i64 r, i64 k, .slice PA pn pc, .slice LA ln lc], i64 nd] w1 (Ret (i64 li) w1) from by have h := ref_Limit t s g l r k PA pn pc LA ln lc nd w1 hs0 hs1 hv0 hv1; rw [← HLI.out] at h; exact h).mono ?_
        rintro e w2 ⟨rfl, hk⟩
        apply hK
        · rfl
        · conv => (lhs; whnf)
        · exact Keep0.step hwi hk
      simp only [put_lit, put_none, List.set_cons_succ, List.set_cons_zero]
      apply Oblig.cons
      case h =>
        intro S w1 hwi hSi hd hcl
        apply StepOk.intro
        intro K hK
        have qy3 := (hwi.blk HY0.out (fun h => h)).k17
        go_simp
        apply hK
        · rfl
        · conv => (lhs; whnf)
        · exact hwi
      simp only [put_lit, put_none, List.set_cons_succ, List.set_cons_zero]
      exact Oblig.nil
    case h0 =>
      exact (Keep.refl _ _).drew
    case hend =>
      intro S wx hwi hall
      obtain ⟨w1, rfl⟩ : ∃ w1 : World, w1 = wx := ⟨_, rfl⟩
      have HY1 := hid (hwi.blk HY0.out (fun h => h))
      have HM1 := hid (HM0.out.keep hwi (fun _ _ h => h))
      have HK1 : Hid (Keep0 w w1) := hid (HK0.out.trans hwi (fun _ _ h => h))
      have qy1 := HY1.out.k17
      clear hwi hall HY0 HM0 HK0 qy0
      go_wp2_with fail
      apply wp_region_text (WI := fun S wx => Keep0 w1 wx) (by kernel_rfl) (by kernel_rfl)
      case hob =>
        apply Oblig.cons
        case h =>
          intro S w1 hwi hSi hd hcl
          apply StepOk.intro
          intro K hK
          have qy3 := (hwi.blk HY1.out (fun h => h)).k17
          go_simp
          apply hK
          · rfl
          · conv => (lhs; whnf)
          · exact hwi
        simp only [put_lit, put_none, List.set_cons_succ, List.set_cons_zero]
        apply Oblig.cons
        case h =>
          intro S w1 hwi hSi hd hcl
          apply StepOk.intro
          intro K hK
          have qy3 := (hwi.blk HY1.out (fun h => h)).k17
          go_simp
          apply hK
          · rfl
          · conv => (lhs; whnf)
          · exact hwi
        simp only [put_lit, put_none, List.set_cons_succ, List.set_cons_zero]
        apply Oblig.cons
        case h =>
          intro S w1 hwi hSi hd hcl
          apply StepOk.intro
          intro K hK
          have qy3 := (hwi.blk HY1.out (fun h => h)).k17
          go_simp
          apply hK
          · rfl
          · conv => (lhs; whnf)
          · exact hwi
        simp only [put_lit, put_none, List.set_cons_succ, List.set_cons_zero]
        apply Oblig.cons
        case h =>
          intro S w1 hwi hSi hd hcl
          apply StepOk.intro
          intro K hK
          have qy3 := (hwi.blk HY1.out (fun h => h)).k17
          go_simp
          apply hK
          · rfl
          · conv => (lhs; whnf)
          · exact hwi
        simp only [put_lit, put_none, List.set_cons_succ, List.set_cons_zero]
        apply Oblig.cons
        case h =>
          intro S w1 hwi hSi hd hcl
          apply StepOk.intro
          intro K hK
          have qy3 := (hwi.blk HY1.out (fun h => h)).k17
          go_simp
          apply hK
          · rfl
          · conv => (lhs; whnf)
          · exact hwi
        simp only [put_lit, put_none, List.set_cons_succ, List.set_cons_zero]
        apply Oblig.cons
        case h =>
          intro S w1 hwi hSi hd hcl
          apply StepOk.intro
          intro K hK
          have qy3 := (hwi.blk HY1.out (fun h => h)).k17
          go_simp
          apply hK
          · rfl
          · conv => (lhs; whnf)
          · exact hwi
        simp only [put_lit, put_none, List.set_cons_succ, List.set_cons_zero]
        apply Oblig.cons
        case h =>
          intro S w1 hwi hSi hd hcl
          apply StepOk.intro
          intro K hK
          have qy3 := (hwi.blk HY1.out (fun h => h)).k17
          go_simp
          apply hK
          · rfl
          · conv => (lhs; whnf)
          · exact hwi
        simp only [put_lit, put_none, List.set_cons_succ, List.set_cons_zero]
        apply Oblig.cons
        case h =>
          intro S w1 hwi hSi hd hcl
          apply StepOk.intro
          intro K hK
          have qy3 := (hwi.blk HY1.out (fun h => h)).k17
          go_simp
          apply hK
          · rfl
          · conv => (lhs; whnf)
          · exact hwi
        simp only [put_lit, put_none, List.set_cons_succ, List.set_cons_zero]
        apply Oblig.cons
        case h =>
          intro S w1 hwi hSi hd hcl
          apply StepOk.intro
          intro K hK
          have qy3 := (hwi.blk HY1.out (fun h => h)).k17
          go_simp
          refine (show Calls Try.prog 17 #[.agg #[i64 t, i64 s, i64 g, i64 l, i64 r, i64 k, .slice PA pn pc, .slice LA ln lc], i64 nd] w1 (Ret (i64 av) w1) from by have h := ref_Avail t s g l r k PA pn pc LA ln lc nd w1 hs0 hs1 hv0 hv1; rw [← HAV.out] at h; exact h).mono ?_
          rintro e w2 ⟨rfl, hk⟩
          apply hK
          · rfl
          · conv => (lhs; whnf)
          · exact Keep0.step hwi hk
        simp only [put_lit, put_none, List.set_cons_succ, List.set_cons_zero]
        apply Oblig.cons
        case h =>
          intro S w1 hwi hSi hd hcl
          apply StepOk.intro
          intro K hK
          have qy3 := (hwi.blk HY1.out (fun h => h)).k17
          go_simp
          apply hK
          · rfl
          · conv => (lhs; whnf)
          · exact hwi
        simp only [put_lit, put_none, List.set_cons_succ, List.set_cons_zero]
        exact Oblig.nil
      case h0 =>
        exact (Keep.refl _ _).drew
      case hend =>
        intro S wx hwi hall
        obtain ⟨w2, rfl⟩ : ∃ w2 : World, w2 = wx := ⟨_, rfl⟩
        have HY2 := hid (hwi.blk HY1.out (fun h => h))
        have HM2 := hid (HM1.out.keep hwi (fun _ _ h => h))
        have HK2 : Hid (Keep0 w w2) := hid (HK1.out.trans hwi (fun _ _ h => h))
        have qy2 := HY2.out.k17
        clear hwi hall HY1 HM1 HK1 qy1
        go_wp2_with fail
        apply wp_region_text (WI := fun S wx => Keep0 w2 wx) (by kernel_rfl) (by kernel_rfl)
        case hob =>
          apply Oblig.cons
          case h =>
            intro S w1 hwi hSi hd hcl
            apply StepOk.intro
            intro K hK
            have qy3 := (hwi.blk HY2.out (fun h => h)).k17
            go_simp
            apply hK
            · rfl
            · conv => (lhs; whnf)
            · exact hwi
          simp only [put_lit, put_none, List.set_cons_succ, List.set_cons_zero]
          apply Oblig.cons
          case h =>
            intro S w1 hwi hSi hd hcl
            apply StepOk.intro
            intro K hK
            have qy3 := (hwi.blk HY2.out (fun h => h)).k17
            go_simp
            apply hK
            · rfl
            · conv => (lhs; whnf)
            · exact hwi
          simp only [put_lit, put_none, List.set_cons_succ, List.set_cons_zero]
          apply Oblig.cons
          case h =>
            intro S w1 hwi hSi hd hcl
            apply StepOk.intro
            intro K hK
            have qy3 := (hwi.blk HY2.out (fun h => h)).k17
            go_simp
            apply hK
            · rfl
            · conv => (lhs; whnf)
            · exact hwi
          simp only [put_lit, put_none, List.set_cons_succ, List.set_cons_zero]
          apply Oblig.cons
          case h =>
            intro S w1 hwi hSi hd hcl
            apply StepOk.intro
            intro K hK
            have qy3 := (hwi.blk HY2.out (fun h => h)).k17
            go_simp
            apply hK
            · rfl
            · conv => (lhs; whnf)
            · exact hwi
          simp only [put_lit, put_none, List.set_cons_succ, List.set_cons_zero]
          apply Oblig.cons
          case h =>
            intro S w1 hwi hSi hd hcl
            apply StepOk.intro
            intro K hK
            have qy3 := (hwi.blk HY2.out (fun h => h)).k17
            go_simp
            apply hK
            · rfl
            · conv => (lhs; whnf)
            · exact hwi
          simp only [put_lit, put_none, List.set_cons_succ, List.set_cons_zero]
          apply Oblig.cons
          case h =>
            intro S w1 hwi hSi hd hcl
            apply StepOk.intro
            intro K hK
            have qy3 := (hwi.blk HY2.out (fun h => h)).k17
            go_simp
            apply hK
            · rfl
            · conv => (lhs; whnf)
            · exact hwi
          simp only [put_lit, put_none, List.set_cons_succ, List.set_cons_zero]
          apply Oblig.cons
          case h =>
            intro S w1 hwi hSi hd hcl
            apply StepOk.intro
            intro K hK
            have qy3 := (hwi.blk HY2.out (fun h => h)).k17
            go_simp
            apply hK
            · rfl
            · conv => (lhs; whnf)
            · exact hwi
          simp only [put_lit, put_none, List.set_cons_succ, List.set_cons_zero]
          apply Oblig.cons
          case h =>
            intro S w1 hwi hSi hd hcl
            apply StepOk.intro
            intro K hK
            have qy3 := (hwi.blk HY2.out (fun h => h)).k17
            go_simp
            apply hK
            · rfl
            · conv => (lhs; whnf)
            · exact hwi
          simp only [put_lit, put_none, List.set_cons_succ, List.set_cons_zero]
          apply Oblig.cons
          case h =>
            intro S w1 hwi hSi hd hcl
            apply StepOk.intro
            intro K hK
            have qy3 := (hwi.blk HY2.out (fun h => h)).k17
            go_simp
            refine (show Calls Try.prog 17 #[.agg #[i64 t, i64 s, i64 g, i64 l, i64 r, i64 k, .slice PA pn pc, .slice LA ln lc], i64 nd] w1 (Ret (i64 av) w1) from by have h := ref_Avail t s g l r k PA pn pc LA ln lc nd w1 hs0 hs1 hv0 hv1; rw [← HAV.out] at h; exact h).mono ?_
            rintro e w2 ⟨rfl, hk⟩
            apply hK
            · rfl
            · conv => (lhs; whnf)
            · exact Keep0.step hwi hk
          simp only [put_lit, put_none, List.set_cons_succ, List.set_cons_zero]
          apply Oblig.cons
          case h =>
            intro S w1 hwi hSi hd hcl
            apply StepOk.intro
            intro K hK
            have qy3 := (hwi.blk HY2.out (fun h => h)).k17
            go_simp
            apply hK
            · rfl
            · conv => (lhs; whnf)
            · exact hwi
          simp only [put_lit, put_none, List.set_cons_succ, List.set_cons_zero]
          exact Oblig.nil
        case h0 =>
          exact (Keep.refl _ _).drew
        case hend =>
          intro S wx hwi hall
          obtain ⟨w3, rfl⟩ : ∃ w3 : World, w3 = wx := ⟨_, rfl⟩
          have HY3 := hid (hwi.blk HY2.out (fun h => h))
          have HM3 := hid (HM2.out.keep hwi (fun _ _ h => h))
          have HK3 : Hid (Keep0 w w3) := hid (HK2.out.trans hwi (fun _ _ h => h))
          have qy3 := HY3.out.k17
          clear hwi hall HY2 HM2 HK2 qy2
          go_wp2_with fail
          apply wp_region_text (WI := fun S wx => Keep0 w3 wx) (by kernel_rfl) (by kernel_rfl)
          case hob =>
            apply Oblig.cons
            case h =>
              intro S w1 hwi hSi hd hcl
              apply StepOk.intro
              intro K hK
              have qy3 := (hwi.blk HY3.out (fun h => h)).k17
              go_simp
              apply hK
              · rfl
              · conv => (lhs; whnf)
              · exact hwi
            simp only [put_lit, put_none, List.set_cons_succ, List.set_cons_zero]
            apply Oblig.cons
            case h =>
              intro S w1 hwi hSi hd hcl
              apply StepOk.intro
              intro K hK
              have qy3 := (hwi.blk HY3.out (fun h => h)).k17
              go_simp
              apply hK
              · rfl
              · conv => (lhs; whnf)
              · exact hwi
            simp only [put_lit, put_none, List.set_cons_succ, List.set_cons_zero]
            apply Oblig.cons
            case h =>
              intro S w1 hwi hSi hd hcl
              apply StepOk.intro
              intro K hK
              have qy3 := (hwi.blk HY3.out (fun h => h)).k17
              go_simp
              apply hK
              · rfl
              · conv => (lhs; whnf)
              · exact hwi
            simp only [put_lit, put_none, List.set_cons_succ, List.set_cons_zero]
            apply Oblig.cons
            case h =>
              intro S w1 hwi hSi hd hcl
              apply StepOk.intro
              intro K hK
              have qy3 := (hwi.blk HY3.out (fun h => h)).k17
              go_simp
              apply hK
              · rfl
              · conv => (lhs; whnf)
              · exact hwi
            simp only [put_lit, put_none, List.set_cons_succ, List.set_cons_zero]
            apply Oblig.cons
            case h =>
              intro S w1 hwi hSi hd hcl
              apply StepOk.intro
              intro K hK
              have qy3 := (hwi.blk HY3.out (fun h => h)).k17
              go_simp
              apply hK
              · rfl
              · conv => (lhs; whnf)
              · exact hwi
            simp only [put_lit, put_none, List.set_cons_succ, List.set_cons_zero]
            apply Oblig.cons
            case h =>
              intro S w1 hwi hSi hd hcl
              apply StepOk.intro
              intro K hK
              have qy3 := (hwi.blk HY3.out (fun h => h)).k17
              go_simp
              apply hK
              · rfl
              · conv => (lhs; whnf)
              · exact hwi
            simp only [put_lit, put_none, List.set_cons_succ, List.set_cons_zero]
            apply Oblig.cons
            case h =>
              intro S w1 hwi hSi hd hcl
              apply StepOk.intro
              intro K hK
              have qy3 := (hwi.blk HY3.out (fun h => h)).k17
              go_simp
              apply hK
              · rfl
              · conv => (lhs; whnf)
              · exact hwi
            simp only [put_lit, put_none, List.set_cons_succ, List.set_cons_zero]
            apply Oblig.cons
            case h =>
              intro S w1 hwi hSi hd hcl
              apply StepOk.intro
              intro K hK
              have qy3 := (hwi.blk HY3.out (fun h => h)).k17
              go_simp
              apply hK
              · rfl
              · conv => (lhs; whnf)
              · exact hwi
            simp only [put_lit, put_none, List.set_cons_succ, List.set_cons_zero]
            apply Oblig.cons
            case h =>
              intro S w1 hwi hSi hd hcl
              apply StepOk.intro
              intro K hK
              have qy3 := (hwi.blk HY3.out (fun h => h)).k17
              go_simp
              refine (show Calls Try.prog 16 #[.agg #[i64 t, i64 s, i64 g, i64 l, i64 r, i64 k, .slice PA pn pc, .slice LA ln lc], i64 nd] w1 (Ret (i64 li) w1) from by have h := ref_Limit t s g l r k PA pn pc LA ln lc nd w1 hs0 hs1 hv0 hv1; rw [← HLI.out] at h; exact h).mono ?_
              rintro e w2 ⟨rfl, hk⟩
              apply hK
              · rfl
              · conv => (lhs; whnf)
              · exact Keep0.step hwi hk
            simp only [put_lit, put_none, List.set_cons_succ, List.set_cons_zero]
            apply Oblig.cons
            case h =>
              intro S w1 hwi hSi hd hcl
              apply StepOk.intro
              intro K hK
              have qy3 := (hwi.blk HY3.out (fun h => h)).k17
              go_simp
              apply hK
              · rfl
              · conv => (lhs; whnf)
              · exact hwi
            simp only [put_lit, put_none, List.set_cons_succ, List.set_cons_zero]
            exact Oblig.nil
          case h0 =>
            exact (Keep.refl _ _).drew
          case hend =>
            intro S wx hwi hall
            obtain ⟨w4, rfl⟩ : ∃ w4 : World, w4 = wx := ⟨_, rfl⟩
            have HY4 := hid (hwi.blk HY3.out (fun h => h))
            have HM4 := hid (HM3.out.keep hwi (fun _ _ h => h))
            have HK4 : Hid (Keep0 w w4) := hid (HK3.out.trans hwi (fun _ _ h => h))
            have qy4 := HY4.out.k17
            clear hwi hall HY3 HM3 HK3 qy3
            go_wp2_with fail
            obtain ⟨w9, rfl⟩ : ∃ w9 : World, w9 = w4 := ⟨_, rfl⟩
            have HY9 := hid HY4.out
            have HM9 := hid HM4.out
            have HK9 := hid HK4.out
            clear HY4 HM4 HK4
            clear qy4
            have qy9 := HY9.out.k17
            have HY10 := hid (show Blk ((w9).setCell ⟨y, 11, none⟩ (i64 0)) y 94 [i64 3, i64 t, i64 s, i64 g, i64 l, i64 r, i64 k, .slice PA pn pc, .slice LA ln lc, i64 nd, i64 n, i64 (0), i64 (saw), i64 (0), i64 0, .bool false, i64 (0)] from ((HY9.out).set 11 _))
            have HKZ := hid (show Keep (fun k => k = y) w9 ((w9).setCell ⟨y, 11, none⟩ (i64 0)) from (((Keep.refl (fun k => k = y) w9)).set ⟨y, 11, none⟩ _ (fun _ => rfl)))
            clear qy9
            generalize (w9).setCell ⟨y, 11, none⟩ (i64 0) = w10 at *
            have qy10 := HY10.out.k17
            have HM := hid (HM9.out.keep HKZ.out (fun b h => rs_far2 HM9.out HY9.out b h))
            have HK : Hid (Keep (fun b => (b = m ∨ lv.ownBlock = some b) ∨ b = y) w w10) := hid ((HK9.out.mono (fun _ h => h.elim)).trans (HKZ.out.mono (fun _ h => Or.inr h)) (fun _ _ h => h))
            clear HM9 HY9 HK9 HKZ
            apply wp_region_text (WI := fun S wx => Blk wx y 94 [i64 3, i64 t, i64 s, i64 g, i64 l, i64 r, i64 k, .slice PA pn pc, .slice LA ln lc, i64 nd, i64 n, i64 (0), i64 (saw), i64 (0), i64 0, .bool false, i64 (0)] ∧ (S 12 = false → RefAt B wx m A ca lv W L ∧ Keep0 w10 wx) ∧ (S 12 = true → RefPost B w10 m A lv (casW W av saw (saw + -n)) (L ++ [⟨3, av, saw, saw + -n, true⟩]) wx)) (by kernel_rfl) (by kernel_rfl)
            case hob =>
              apply Oblig.cons
              case h =>
                intro S w1 hwi hSi hd hcl
                apply StepOk.intro
                intro K hK
                have qy5 := hwi.1.k17
                go_simp
                apply hK
                · rfl
                · conv => (lhs; whnf)
                · exact hwi
              simp only [put_lit, put_none, List.set_cons_succ, List.set_cons_zero]
              apply Oblig.cons
              case h =>
                intro S w1 hwi hSi hd hcl
                apply StepOk.intro
                intro K hK
                have qy5 := hwi.1.k17
                go_simp
                apply hK
                · rfl
                · conv => (lhs; whnf)
                · exact hwi
              simp only [put_lit, put_none, List.set_cons_succ, List.set_cons_zero]
              apply Oblig.cons
              case h =>
                intro S w1 hwi hSi hd hcl
                apply StepOk.intro
                intro K hK
                have qy5 := hwi.1.k17
                go_simp
                apply hK
                · rfl
                · conv => (lhs; whnf)
                · exact hwi
              simp only [put_lit, put_none, List.set_cons_succ, List.set_cons_zero]
              apply Oblig.cons
              case h =>
                intro S w1 hwi hSi hd hcl
                apply StepOk.intro
                intro K hK
                have qy5 := hwi.1.k17
                go_simp
                apply hK
                · rfl
                · conv => (lhs; whnf)
                · exact hwi
              simp only [put_lit, put_none, List.set_cons_succ, List.set_cons_zero]
              apply Oblig.cons
              case h =>
                intro S w1 hwi hSi hd hcl
                apply StepOk.intro
                intro K hK
                have qy5 := hwi.1.k17
                go_simp
                apply hK
                · rfl
                · conv => (lhs; whnf)
                · exact hwi
              simp only [put_lit, put_none, List.set_cons_succ, List.set_cons_zero]
              apply Oblig.cons
              case h =>
                intro S w1 hwi hSi hd hcl
                apply StepOk.intro
                intro K hK
                have qy5 := hwi.1.k17
                go_simp
                apply hK
                · rfl
                · conv => (lhs; whnf)
                · exact hwi
              simp only [put_lit, put_none, List.set_cons_succ, List.set_cons_zero]
              apply Oblig.cons
              case h =>
                intro S w1 hwi hSi hd hcl
                apply StepOk.intro
                intro K hK
                have qy5 := hwi.1.k17
                go_simp
                apply hK
                · rfl
                · conv => (lhs; whnf)
                · exact hwi
              simp only [put_lit, put_none, List.set_cons_succ, List.set_cons_zero]
              apply Oblig.cons
              case h =>
                intro S w1 hwi hSi hd hcl
                apply StepOk.intro
                intro K hK
                have qy5 := hwi.1.k17
                go_simp
                apply hK
                · rfl
                · conv => (lhs; whnf)
                · exact hwi
              simp only [put_lit, put_none, List.set_cons_succ, List.set_cons_zero]
              apply Oblig.cons
              case h =>
                intro S w1 hwi hSi hd hcl
                apply StepOk.intro
                intro K hK
                have qy5 := hwi.1.k17
                go_simp
                apply hK
                · rfl
                · conv => (lhs; whnf)
                · exact hwi
              simp only [put_lit, put_none, List.set_cons_succ, List.set_cons_zero]
              apply Oblig.cons
              case h =>
                intro S w1 hwi hSi hd hcl
                apply StepOk.intro
                intro K hK
                have qy5 := hwi.1.k17
                go_simp
                apply hK
                · rfl
                · conv => (lhs; whnf)
                · exact hwi
              simp only [put_lit, put_none, List.set_cons_succ, List.set_cons_zero]
              apply Oblig.cons
              case h =>
                intro S w1 hwi hSi hd hcl
                apply StepOk.intro
                intro K hK
                have qy5 := hwi.1.k17
                go_simp
                apply hK
                · rfl
                · conv => (lhs; whnf)
                · exact hwi
              simp only [put_lit, put_none, List.set_cons_succ, List.set_cons_zero]
              apply Oblig.cons
              case h =>
                intro S w1 hwi hSi hd hcl
                apply StepOk.intro
                intro K hK
                have qy5 := hwi.1.k17
                go_simp
                apply hK
                · rfl
                · conv => (lhs; whnf)
                · exact hwi
              simp only [put_lit, put_none, List.set_cons_succ, List.set_cons_zero]
              apply Oblig.cons
              case h =>
                intro S w1 hwi hSi hd hcl
                apply StepOk.intro
                intro K hK
                have qy5 := hwi.1.k17
                go_simp
                refine (show Calls Try.prog 68 #[ptr m, i64 av, i64 saw, i64 (saw + -n)] w1 (fun e w2 => e = .returned (.bool true) ∧ RefPost B w1 m A lv (casW W av saw (saw + -n)) (L ++ [⟨3, av, saw, saw + -n, true⟩]) w2) from by have h := ref_CasN' av saw (saw + -n) (hwi.2.1 hSi).1 (by omega) hW hL; rw [hcb] at h; exact h).mono ?_
                rintro e w2 ⟨rfl, hp⟩
                obtain ⟨Aq, cq, lvq, hq1, hq2, _⟩ := id hp
                have hblk := hq2.blk hwi.1 (rs_far (hwi.2.1 hSi).1 hwi.1)
                have hpp := hp.before (hwi.2.1 hSi).2
                apply hK
                · rfl
                · conv => (lhs; whnf)
                · exact ⟨hblk, fun h => by simp [upd] at h, fun _ => hpp⟩
              simp only [put_lit, put_none, List.set_cons_succ, List.set_cons_zero]
              exact Oblig.nil
            case h0 =>
              exact ⟨HY10.out.drew, fun _ => ⟨HM.out.keep (Keep.refl (fun _ => False) _).drew (fun _ _ h => h), (Keep.refl _ _).drew⟩, fun h => by cases h⟩
            case hend =>
              intro S wx hwi hall
              obtain ⟨w3, rfl⟩ : ∃ w3 : World, w3 = wx := ⟨_, rfl⟩
              obtain ⟨A3, c3, lv3, hm, hk, ha, hl⟩ := hwi.2.2 (hall 12 (by decide))
              have HK3 := hid (HK.out.trans (hk.mono (T := fun b => (b = m ∨ lv.ownBlock = some b) ∨ b = y) (fun _ h => Or.inl h)) (fun _ _ h => h))
              have HM3 := hid hm
              have HY3 := hid hwi.1
              have HA3 := hid (fun b h => (ha b h).imp id (fun h => Nat.le_trans HK.out.size h))
              have HL3 := hid (fun b h => (hl b h).imp id (fun h => Nat.le_trans HK.out.size h))
              have qy3 := HY3.out.k17
              clear hwi hall hm hk ha hl HK HM HY10 qy10
              go_wp2_with fail
              go_ret
              exact rshP_of2 (x' := _) HM3.out HK3.out HA3.out HL3.out HY3.out (((Keep.refl (fun k => k = y) w3)).set ⟨y, 11, none⟩ _ (fun _ => rfl)) ((HY3.out).set 11 _)
end
end Go.Proofs.Ytonekdolmbdniaa


namespace Go.Proofs.Ytonekdolmbdniaa
open Go.RowKit
set_option linter.unusedVariables false
set_option linter.unusedSimpArgs false
set_option maxRecDepth 100000
section
variable {B : Nat} {w : World} {m y : Nat} {A : Option Addr} {ca : Nat} {lv : Value} {kd li av : Nat} {t s g l r k nd n X : Int} {PA : Option Addr} {pn pc : Nat} {LA : Option Addr} {ln lc : Nat}
set_option maxHeartbeats 4000000 in
theorem rsh_step10 {saw : Int} {W : List Int} {L : List Acc} (hm : RefAt B w m A ca lv W L) (hy : Blk w y 94 [i64 2, i64 t, i64 s, i64 g, i64 l, i64 r, i64 k, .slice PA pn pc, .slice LA ln lc, i64 nd, i64 n, i64 (0), i64 (saw), i64 (0), i64 0, .bool false, i64 (0)]) (h1 : li < W.length) (h2 : av < W.length) (hne : li ≠ av) (hn : 1 ≤ n ∧ n ≤ 1048576) (hb1 : -4398046511104 ≤ rd W li ∧ rd W li ≤ 4398046511104) (hb2 : -4398046511104 ≤ rd W av ∧ rd W av ≤ 4398046511104) (hb3 : -4398046511104 ≤ saw ∧ saw ≤ 4398046511104) (hL : L.length ≤ 1000000000) (hW : W.length ≤ 1000000) (hs0 : 1 ≤ s) (hs1 : s ≤ 8) (hv0 : 0 ≤ nd) (hv1 : nd ≤ 1000) (hli : (li : Int) = nd * (6 + 2 * s)) (hav : (av : Int) = nd * (6 + 2 * s) + 1) :
    Calls Try.prog 53 #[ptr y, ptr m] w (RShP B w m A lv y 1 t s g l r k PA pn pc LA ln lc nd n (sNext 1 li av n ⟨W, L, 0, saw, false⟩)) := by
  have HY0 : Hid (Blk w y 94 [i64 2, i64 t, i64 s, i64 g, i64 l, i64 r, i64 k, .slice PA pn pc, .slice LA ln lc, i64 nd, i64 n, i64 (0), i64 (saw), i64 (0), i64 0, .bool false, i64 (0)]) := hid hy
  have qy0 := HY0.out.k17
  have HM0 := hid hm
  have HLI := hid hli
  have HAV := hid hav
  have HK0 : Hid (Keep0 w w) := hid (Keep.refl _ _)
  obtain ⟨w0, hw0⟩ : ∃ w0 : World, w0 = w := ⟨_, rfl⟩
  have ym : IntKind.i64.wrap (-n) = -n := IntWalk.i64_in _ (by omega)
  have ya : IntKind.i64.wrap (saw + n) = saw + n := IntWalk.i64_in _ (by omega)
  have yb : IntKind.i64.wrap (saw + -n) = saw + -n := IntWalk.i64_in _ (by omega)
  have yc : IntKind.i64.wrap (saw - n) = saw + -n := by rw [Int.sub_eq_add_neg]; exact yb
  have yd : IntKind.i64.wrap (rd W li + n) = rd W li + n := IntWalk.i64_in _ (by omega)
  clear hy hm hli hav
  cases hr : sRef 1 n (rd W li)
  · have e : sNext 1 li av n ⟨W, L, 0, saw, false⟩ = ⟨W, L ++ [⟨1, li, rd W li, 0, false⟩], 1, rd W li, false⟩ := by simp [sNext, hr]
    rw [e]
    clear e
    have g9 : ¬ (1099511627776 < rd W li + n) := by simp [sRef] at hr; omega
    clear hr
    go_enter Try.func53, Try.ntmps53
    go_wp2_with fail
    apply wp_region_text (WI := fun S wx => Keep0 w wx) (by kernel_rfl) (by kernel_rfl)
    case hob =>
      apply Oblig.cons
      case h =>
        intro S w1 hwi hSi hd hcl
        apply StepOk.intro
        intro K hK
        have qy3 := (hwi.blk HY0.out (fun h => h)).k17
        go_simp
        apply hK
        · rfl
        · conv => (lhs; whnf)
        · exact hwi
      simp only [put_lit, put_none, List.set_cons_succ, List.set_cons_zero]
      apply Oblig.cons
      case h =>
        intro S w1 hwi hSi hd hcl
        apply StepOk.intro
        intro K hK
        have qy3 := (hwi.blk HY0.out (fun h => h)).k17
        go_simp
        apply hK
        · rfl
        · conv => (lhs; whnf)
        · exact hwi
      simp only [put_lit, put_none, List.set_cons_succ, List.set_cons_zero]
      apply Oblig.cons
      case h =>
        intro S w1 hwi hSi hd hcl
        apply StepOk.intro
        intro K hK
        have qy3 := (hwi.blk HY0.out (fun h => h)).k17
        go_simp
        apply hK
        · rfl
        · conv => (lhs; whnf)
        · exact hwi
      simp only [put_lit, put_none, List.set_cons_succ, List.set_cons_zero]
      apply Oblig.cons
      case h =>
        intro S w1 hwi hSi hd hcl
        apply StepOk.intro
        intro K hK
        have qy3 := (hwi.blk HY0.out (fun h => h)).k17
        go_simp
        apply hK
        · rfl
        · conv => (lhs; whnf)
        · exact hwi
      simp only [put_lit, put_none, List.set_cons_succ, List.set_cons_zero]
      apply Oblig.cons
      case h =>
        intro S w1 hwi hSi hd hcl
        apply StepOk.intro
        intro K hK
        have qy3 := (hwi.blk HY0.out (fun h => h)).k17
        go_simp
        apply hK
        · rfl
        · conv => (lhs; whnf)
        · exact hwi
      simp only [put_lit, put_none, List.set_cons_succ, List.set_cons_zero]
      apply Oblig.cons
      case h =>
        intro S w1 hwi hSi hd hcl
        apply StepOk.intro
        intro K hK
        have qy3 := (hwi.blk HY0.out (fun h => h)).k17
        go_simp
        apply hK
        · rfl
        · conv => (lhs; whnf)
        · exact hwi
      simp only [put_lit, put_none, List.set_cons_succ, List.set_cons_zero]
      apply Oblig.cons
      case h =>
        intro S w1 hwi hSi hd hcl
        apply StepOk.intro
        intro K hK
        have qy3 := (hwi.blk HY0.out (fun h => h)).k17
        go_simp
        apply hK
        · rfl
        · conv => (lhs; whnf)
        · exact hwi
      simp only [put_lit, put_none, List.set_cons_succ, List.set_cons_zero]
      apply Oblig.cons
      case h =>
        intro S w1 hwi hSi hd hcl
        apply StepOk.intro
        intro K hK
        have qy3 := (hwi.blk HY0.out (fun h => h)).k17
        go_simp
        apply hK
        · rfl
        · conv => (lhs; whnf)
        · exact hwi
      simp only [put_lit, put_none, List.set_cons_succ, List.set_cons_zero]
      apply Oblig.cons
      case h =>
        intro S w1 hwi hSi hd hcl
        apply StepOk.intro
        intro K hK
        have qy3 := (hwi.blk HY0.out (fun h => h)).k17
        go_simp
        refine (show Calls Try.prog 16 #[.agg #[i64 t, i64 s, i64 g, i64 l, i64 r, i64 k, .slice PA pn pc, .slice LA ln lc], i64 nd] w1 (Ret (i64 li) w1) from by have h := ref_Limit t s g l r k PA pn pc LA ln lc nd w1 hs0 hs1 hv0 hv1; rw [← HLI.out] at h; exact h).mono ?_
        rintro e w2 ⟨rfl, hk⟩
        apply hK
        · rfl
        · conv => (lhs; whnf)
        · exact Keep0.step hwi hk
      simp only [put_lit, put_none, List.set_cons_succ, List.set_cons_zero]
      apply Oblig.cons
      case h =>
        intro S w1 hwi hSi hd hcl
        apply StepOk.intro
        intro K hK
        have qy3 := (hwi.blk HY0.out (fun h => h)).k17
        go_simp
        apply hK
        · rfl
        · conv => (lhs; whnf)
        · exact hwi
      simp only [put_lit, put_none, List.set_cons_succ, List.set_cons_zero]
      exact Oblig.nil
    case h0 =>
      exact (Keep.refl _ _).drew
    case hend =>
      intro S wx hwi hall
      obtain ⟨w1, rfl⟩ : ∃ w1 : World, w1 = wx := ⟨_, rfl⟩
      have HY1 := hid (hwi.blk HY0.out (fun h => h))
      have HM1 := hid (HM0.out.keep hwi (fun _ _ h => h))
      have HK1 : Hid (Keep0 w w1) := hid (HK0.out.trans hwi (fun _ _ h => h))
      have qy1 := HY1.out.k17
      clear hwi hall HY0 HM0 HK0 qy0
      go_wp2_with fail
      apply wp_region_text (WI := fun S wx => Keep0 w1 wx) (by kernel_rfl) (by kernel_rfl)
      case hob =>
        apply Oblig.cons
        case h =>
          intro S w1 hwi hSi hd hcl
          apply StepOk.intro
          intro K hK
          have qy3 := (hwi.blk HY1.out (fun h => h)).k17
          go_simp
          apply hK
          · rfl
          · conv => (lhs; whnf)
          · exact hwi
        simp only [put_lit, put_none, List.set_cons_succ, List.set_cons_zero]
        apply Oblig.cons
        case h =>
          intro S w1 hwi hSi hd hcl
          apply StepOk.intro
          intro K hK
          have qy3 := (hwi.blk HY1.out (fun h => h)).k17
          go_simp
          apply hK
          · rfl
          · conv => (lhs; whnf)
          · exact hwi
        simp only [put_lit, put_none, List.set_cons_succ, List.set_cons_zero]
        apply Oblig.cons
        case h =>
          intro S w1 hwi hSi hd hcl
          apply StepOk.intro
          intro K hK
          have qy3 := (hwi.blk HY1.out (fun h => h)).k17
          go_simp
          apply hK
          · rfl
          · conv => (lhs; whnf)
          · exact hwi
        simp only [put_lit, put_none, List.set_cons_succ, List.set_cons_zero]
        apply Oblig.cons
        case h =>
          intro S w1 hwi hSi hd hcl
          apply StepOk.intro
          intro K hK
          have qy3 := (hwi.blk HY1.out (fun h => h)).k17
          go_simp
          apply hK
          · rfl
          · conv => (lhs; whnf)
          · exact hwi
        simp only [put_lit, put_none, List.set_cons_succ, List.set_cons_zero]
        apply Oblig.cons
        case h =>
          intro S w1 hwi hSi hd hcl
          apply StepOk.intro
          intro K hK
          have qy3 := (hwi.blk HY1.out (fun h => h)).k17
          go_simp
          apply hK
          · rfl
          · conv => (lhs; whnf)
          · exact hwi
        simp only [put_lit, put_none, List.set_cons_succ, List.set_cons_zero]
        apply Oblig.cons
        case h =>
          intro S w1 hwi hSi hd hcl
          apply StepOk.intro
          intro K hK
          have qy3 := (hwi.blk HY1.out (fun h => h)).k17
          go_simp
          apply hK
          · rfl
          · conv => (lhs; whnf)
          · exact hwi
        simp only [put_lit, put_none, List.set_cons_succ, List.set_cons_zero]
        apply Oblig.cons
        case h =>
          intro S w1 hwi hSi hd hcl
          apply StepOk.intro
          intro K hK
          have qy3 := (hwi.blk HY1.out (fun h => h)).k17
          go_simp
          apply hK
          · rfl
          · conv => (lhs; whnf)
          · exact hwi
        simp only [put_lit, put_none, List.set_cons_succ, List.set_cons_zero]
        apply Oblig.cons
        case h =>
          intro S w1 hwi hSi hd hcl
          apply StepOk.intro
          intro K hK
          have qy3 := (hwi.blk HY1.out (fun h => h)).k17
          go_simp
          apply hK
          · rfl
          · conv => (lhs; whnf)
          · exact hwi
        simp only [put_lit, put_none, List.set_cons_succ, List.set_cons_zero]
        apply Oblig.cons
        case h =>
          intro S w1 hwi hSi hd hcl
          apply StepOk.intro
          intro K hK
          have qy3 := (hwi.blk HY1.out (fun h => h)).k17
          go_simp
          refine (show Calls Try.prog 17 #[.agg #[i64 t, i64 s, i64 g, i64 l, i64 r, i64 k, .slice PA pn pc, .slice LA ln lc], i64 nd] w1 (Ret (i64 av) w1) from by have h := ref_Avail t s g l r k PA pn pc LA ln lc nd w1 hs0 hs1 hv0 hv1; rw [← HAV.out] at h; exact h).mono ?_
          rintro e w2 ⟨rfl, hk⟩
          apply hK
          · rfl
          · conv => (lhs; whnf)
          · exact Keep0.step hwi hk
        simp only [put_lit, put_none, List.set_cons_succ, List.set_cons_zero]
        apply Oblig.cons
        case h =>
          intro S w1 hwi hSi hd hcl
          apply StepOk.intro
          intro K hK
          have qy3 := (hwi.blk HY1.out (fun h => h)).k17
          go_simp
          apply hK
          · rfl
          · conv => (lhs; whnf)
          · exact hwi
        simp only [put_lit, put_none, List.set_cons_succ, List.set_cons_zero]
        exact Oblig.nil
      case h0 =>
        exact (Keep.refl _ _).drew
      case hend =>
        intro S wx hwi hall
        obtain ⟨w2, rfl⟩ : ∃ w2 : World, w2 = wx := ⟨_, rfl⟩
        have HY2 := hid (hwi.blk HY1.out (fun h => h))
        have HM2 := hid (HM1.out.keep hwi (fun _ _ h => h))
        have HK2 : Hid (Keep0 w w2) := hid (HK1.out.trans hwi (fun _ _ h => h))
        have qy2 := HY2.out.k17
        clear hwi hall HY1 HM1 HK1 qy1
        go_wp2_with fail
        obtain ⟨w9, rfl⟩ : ∃ w9 : World, w9 = w2 := ⟨_, rfl⟩
        have HY9 := hid HY2.out
        have HM9 := hid HM2.out
        have HK9 := hid HK2.out
        clear HY2 HM2 HK2
        refine (ref_LoadN' li HM9.out (by omega) hL).mono ?_
        rintro e w10 ⟨rfl, A3, c3, lv3, hm, hk, ha, hl⟩
        have hb := hk.blk HY9.out (rs_far HM9.out HY9.out)
        have HK10 := hid ((HK9.out.mono (T := fun b => b = m ∨ lv.ownBlock = some b) (fun _ h => h.elim)).trans hk (fun _ _ h => h))
        have HM10 := hid hm
        have HY10 := hid hb
        have HA10 := hid (fun b h => (ha b h).imp id (fun h => Nat.le_trans HK9.out.size h))
        have HL10 := hid (fun b h => (hl b h).imp id (fun h => Nat.le_trans HK9.out.size h))
        have qy10 := hb.k17
        clear hm hk ha hl hb HK9 HM9 HY9 qy2
        go_wp2_with fail
        have HY11 := hid (show Blk (((w10).setCell ⟨y, 12, none⟩ (i64 (rd W li))).setCell ⟨y, 11, none⟩ (i64 1)) y 94 [i64 2, i64 t, i64 s, i64 g, i64 l, i64 r, i64 k, .slice PA pn pc, .slice LA ln lc, i64 nd, i64 n, i64 (1), i64 (rd W li), i64 (0), i64 0, .bool false, i64 (0)] from (((HY10.out).set 12 _).set 11 _))
        have HKY11 := hid (show Keep (fun k => k = y) w10 (((w10).setCell ⟨y, 12, none⟩ (i64 (rd W li))).setCell ⟨y, 11, none⟩ (i64 1)) from ((((Keep.refl (fun k => k = y) w10)).set ⟨y, 12, none⟩ _ (fun _ => rfl)).set ⟨y, 11, none⟩ _ (fun _ => rfl)))
        clear qy10
        generalize ((w10).setCell ⟨y, 12, none⟩ (i64 (rd W li))).setCell ⟨y, 11, none⟩ (i64 1) = w11 at *
        have qy11 := HY11.out.k17
        go_region
        have HY12 := hid (show Blk ((w11).drew) y 94 [i64 2, i64 t, i64 s, i64 g, i64 l, i64 r, i64 k, .slice PA pn pc, .slice LA ln lc, i64 nd, i64 n, i64 (1), i64 (rd W li), i64 (0), i64 0, .bool false, i64 (0)] from ((HY11.out).drew))
        have HKY12 := hid (show Keep (fun k => k = y) w11 ((w11).drew) from (((Keep.refl (fun k => k = y) w11)).drew))
        clear qy11
        generalize (w11).drew = w12 at *
        have qy12 := HY12.out.k17
        go_wp2_with fail
        go_region
        have HY13 := hid (show Blk ((w12).drew) y 94 [i64 2, i64 t, i64 s, i64 g, i64 l, i64 r, i64 k, .slice PA pn pc, .slice LA ln lc, i64 nd, i64 n, i64 (1), i64 (rd W li), i64 (0), i64 0, .bool false, i64 (0)] from ((HY12.out).drew))
        have HKY13 := hid (show Keep (fun k => k = y) w12 ((w12).drew) from (((Keep.refl (fun k => k = y) w12)).drew))
        clear qy12
        generalize (w12).drew = w13 at *
        have qy13 := HY13.out.k17
        go_wp2_with fail
        go_ret
        exact rshP_of (x' := _) HM10.out HK10.out HA10.out HL10.out HY10.out (((((Keep.refl (fun k => k = y) w10).trans HKY11.out (fun _ _ h => h)).trans HKY12.out (fun _ _ h => h)).trans HKY13.out (fun _ _ h => h)).trans ((Keep.refl (fun k => k = y) w13)) (fun _ _ h => h)) (HY13.out)
  · have e : sNext 1 li av n ⟨W, L, 0, saw, false⟩ = ⟨W, L ++ [⟨1, li, rd W li, 0, false⟩], 3, rd W li, true⟩ := by simp [sNext, hr]
    rw [e]
    clear e
    have g9 : (1099511627776 < rd W li + n) := by simp [sRef] at hr; omega
    clear hr
    go_enter Try.func53, Try.ntmps53
    go_wp2_with fail
    apply wp_region_text (WI := fun S wx => Keep0 w wx) (by kernel_rfl) (by kernel_rfl)
    case hob =>
      apply Oblig.cons
      case h =>
        intro S w1 hwi hSi hd hcl
        apply StepOk.intro
        intro K hK
        have qy3 := (hwi.blk HY0.out (fun h => h)).k17
        go_simp
        apply hK
        · rfl
        · conv => (lhs; whnf)
        · exact hwi
      simp only [put_lit, put_none, List.set_cons_succ, List.set_cons_zero]
      apply Oblig.cons
      case h =>
        intro S w1 hwi hSi hd hcl
        apply StepOk.intro
        intro K hK
        have qy3 := (hwi.blk HY0.out (fun h => h)).k17
        go_simp
        apply hK
        · rfl
        · conv => (lhs; whnf)
        · exact hwi
      simp only [put_lit, put_none, List.set_cons_succ, List.set_cons_zero]
      apply Oblig.cons
      case h =>
        intro S w1 hwi hSi hd hcl
        apply StepOk.intro
        intro K hK
        have qy3 := (hwi.blk HY0.out (fun h => h)).k17
        go_simp
        apply hK
        · rfl
        · conv => (lhs; whnf)
        · exact hwi
      simp only [put_lit, put_none, List.set_cons_succ, List.set_cons_zero]
      apply Oblig.cons
      case h =>
        intro S w1 hwi hSi hd hcl
        apply StepOk.intro
        intro K hK
        have qy3 := (hwi.blk HY0.out (fun h => h)).k17
        go_simp
        apply hK
        · rfl
        · conv => (lhs; whnf)
        · exact hwi
      simp only [put_lit, put_none, List.set_cons_succ, List.set_cons_zero]
      apply Oblig.cons
      case h =>
        intro S w1 hwi hSi hd hcl
        apply StepOk.intro
        intro K hK
        have qy3 := (hwi.blk HY0.out (fun h => h)).k17
        go_simp
        apply hK
        · rfl
        · conv => (lhs; whnf)
        · exact hwi
      simp only [put_lit, put_none, List.set_cons_succ, List.set_cons_zero]
      apply Oblig.cons
      case h =>
        intro S w1 hwi hSi hd hcl
        apply StepOk.intro
        intro K hK
        have qy3 := (hwi.blk HY0.out (fun h => h)).k17
        go_simp
        apply hK
        · rfl
        · conv => (lhs; whnf)
        · exact hwi
      simp only [put_lit, put_none, List.set_cons_succ, List.set_cons_zero]
      apply Oblig.cons
      case h =>
        intro S w1 hwi hSi hd hcl
        apply StepOk.intro
        intro K hK
        have qy3 := (hwi.blk HY0.out (fun h => h)).k17
        go_simp
        apply hK
        · rfl
        · conv => (lhs; whnf)
        · exact hwi
      simp only [put_lit, put_none, List.set_cons_succ, List.set_cons_zero]
      apply Oblig.cons
      case h =>
        intro S w1 hwi hSi hd hcl
        apply StepOk.intro
        intro K hK
        have qy3 := (hwi.blk HY0.out (fun h => h)).k17
        go_simp
        apply hK
        · rfl
        · conv => (lhs; whnf)
        · exact hwi
      simp only [put_lit, put_none, List.set_cons_succ, List.set_cons_zero]
      apply Oblig.cons
      case h =>
        intro S w1 hwi hSi hd hcl
        apply StepOk.intro
        intro K hK
        have qy3 := (hwi.blk HY0.out (fun h => h)).k17
        go_simp
        refine (show Calls Try.prog 16 #[.agg #[i64 t, i64 s, i64 g, i64 l, i64 r, i64 k, .slice PA pn pc, .slice LA ln lc], i64 nd] w1 (Ret (i64 li) w1) from by have h := ref_Limit t s g l r k PA pn pc LA ln lc nd w1 hs0 hs1 hv0 hv1; rw [← HLI.out] at h; exact h).mono ?_
        rintro e w2 ⟨rfl, hk⟩
        apply hK
        · rfl
        · conv => (lhs; whnf)
        · exact Keep0.step hwi hk
      simp only [put_lit, put_none, List.set_cons_succ, List.set_cons_zero]
      apply Oblig.cons
      case h =>
        intro S w1 hwi hSi hd hcl
        apply StepOk.intro
        intro K hK
        have qy3 := (hwi.blk HY0.out (fun h => h)).k17
        go_simp
        apply hK
        · rfl
        · conv => (lhs; whnf)
        · exact hwi
      simp only [put_lit, put_none, List.set_cons_succ, List.set_cons_zero]
      exact Oblig.nil
    case h0 =>
      exact (Keep.refl _ _).drew
    case hend =>
      intro S wx hwi hall
      obtain ⟨w1, rfl⟩ : ∃ w1 : World, w1 = wx := ⟨_, rfl⟩
      have HY1 := hid (hwi.blk HY0.out (fun h => h))
      have HM1 := hid (HM0.out.keep hwi (fun _ _ h => h))
      have HK1 : Hid (Keep0 w w1) := hid (HK0.out.trans hwi (fun _ _ h => h))
      have qy1 := HY1.out.k17
      clear hwi hall HY0 HM0 HK0 qy0
      go_wp2_with fail
      apply wp_region_text (WI := fun S wx => Keep0 w1 wx) (by kernel_rfl) (by kernel_rfl)
      case hob =>
        apply Oblig.cons
        case h =>
          intro S w1 hwi hSi hd hcl
          apply StepOk.intro
          intro K hK
          have qy3 := (hwi.blk HY1.out (fun h => h)).k17
          go_simp
          apply hK
          · rfl
          · conv => (lhs; whnf)
          · exact hwi
        simp only [put_lit, put_none, List.set_cons_succ, List.set_cons_zero]
        apply Oblig.cons
        case h =>
          intro S w1 hwi hSi hd hcl
          apply StepOk.intro
          intro K hK
          have qy3 := (hwi.blk HY1.out (fun h => h)).k17
          go_simp
          apply hK
          · rfl
          · conv => (lhs; whnf)
          · exact hwi
        simp only [put_lit, put_none, List.set_cons_succ, List.set_cons_zero]
        apply Oblig.cons
        case h =>
          intro S w1 hwi hSi hd hcl
          apply StepOk.intro
          intro K hK
          have qy3 := (hwi.blk HY1.out (fun h => h)).k17
          go_simp
          apply hK
          · rfl
          · conv => (lhs; whnf)
          · exact hwi
        simp only [put_lit, put_none, List.set_cons_succ, List.set_cons_zero]
        apply Oblig.cons
        case h =>
          intro S w1 hwi hSi hd hcl
          apply StepOk.intro
          intro K hK
          have qy3 := (hwi.blk HY1.out (fun h => h)).k17
          go_simp
          apply hK
          · rfl
          · conv => (lhs; whnf)
          · exact hwi
        simp only [put_lit, put_none, List.set_cons_succ, List.set_cons_zero]
        apply Oblig.cons
        case h =>
          intro S w1 hwi hSi hd hcl
          apply StepOk.intro
          intro K hK
          have qy3 := (hwi.blk HY1.out (fun h => h)).k17
          go_simp
          apply hK
          · rfl
          · conv => (lhs; whnf)
          · exact hwi
        simp only [put_lit, put_none, List.set_cons_succ, List.set_cons_zero]
        apply Oblig.cons
        case h =>
          intro S w1 hwi hSi hd hcl
          apply StepOk.intro
          intro K hK
          have qy3 := (hwi.blk HY1.out (fun h => h)).k17
          go_simp
          apply hK
          · rfl
          · conv => (lhs; whnf)
          · exact hwi
        simp only [put_lit, put_none, List.set_cons_succ, List.set_cons_zero]
        apply Oblig.cons
        case h =>
          intro S w1 hwi hSi hd hcl
          apply StepOk.intro
          intro K hK
          have qy3 := (hwi.blk HY1.out (fun h => h)).k17
          go_simp
          apply hK
          · rfl
          · conv => (lhs; whnf)
          · exact hwi
        simp only [put_lit, put_none, List.set_cons_succ, List.set_cons_zero]
        apply Oblig.cons
        case h =>
          intro S w1 hwi hSi hd hcl
          apply StepOk.intro
          intro K hK
          have qy3 := (hwi.blk HY1.out (fun h => h)).k17
          go_simp
          apply hK
          · rfl
          · conv => (lhs; whnf)
          · exact hwi
        simp only [put_lit, put_none, List.set_cons_succ, List.set_cons_zero]
        apply Oblig.cons
        case h =>
          intro S w1 hwi hSi hd hcl
          apply StepOk.intro
          intro K hK
          have qy3 := (hwi.blk HY1.out (fun h => h)).k17
          go_simp
          refine (show Calls Try.prog 17 #[.agg #[i64 t, i64 s, i64 g, i64 l, i64 r, i64 k, .slice PA pn pc, .slice LA ln lc], i64 nd] w1 (Ret (i64 av) w1) from by have h := ref_Avail t s g l r k PA pn pc LA ln lc nd w1 hs0 hs1 hv0 hv1; rw [← HAV.out] at h; exact h).mono ?_
          rintro e w2 ⟨rfl, hk⟩
          apply hK
          · rfl
          · conv => (lhs; whnf)
          · exact Keep0.step hwi hk
        simp only [put_lit, put_none, List.set_cons_succ, List.set_cons_zero]
        apply Oblig.cons
        case h =>
          intro S w1 hwi hSi hd hcl
          apply StepOk.intro
          intro K hK
          have qy3 := (hwi.blk HY1.out (fun h => h)).k17
          go_simp
          apply hK
          · rfl
          · conv => (lhs; whnf)
          · exact hwi
        simp only [put_lit, put_none, List.set_cons_succ, List.set_cons_zero]
        exact Oblig.nil
      case h0 =>
        exact (Keep.refl _ _).drew
      case hend =>
        intro S wx hwi hall
        obtain ⟨w2, rfl⟩ : ∃ w2 : World, w2 = wx := ⟨_, rfl⟩
        have HY2 := hid (hwi.blk HY1.out (fun h => h))
        have HM2 := hid (HM1.out.keep hwi (fun _ _ h => h))
        have HK2 : Hid (Keep0 w w2) := hid (HK1.out.trans hwi (fun _ _ h => h))
        have qy2 := HY2.out.k17
        clear hwi hall HY1 HM1 HK1 qy1
        go_wp2_with fail
        obtain ⟨w9, rfl⟩ : ∃ w9 : World, w9 = w2 := ⟨_, rfl⟩
        have HY9 := hid HY2.out
        have HM9 := hid HM2.out
        have HK9 := hid HK2.out
        clear HY2 HM2 HK2
        refine (ref_LoadN' li HM9.out (by omega) hL).mono ?_
        rintro e w10 ⟨rfl, A3, c3, lv3, hm, hk, ha, hl⟩
        have hb := hk.blk HY9.out (rs_far HM9.out HY9.out)
        have HK10 := hid ((HK9.out.mono (T := fun b => b = m ∨ lv.ownBlock = some b) (fun _ h => h.elim)).trans hk (fun _ _ h => h))
        have HM10 := hid hm
        have HY10 := hid hb
        have HA10 := hid (fun b h => (ha b h).imp id (fun h => Nat.le_trans HK9.out.size h))
        have HL10 := hid (fun b h => (hl b h).imp id (fun h => Nat.le_trans HK9.out.size h))
        have qy10 := hb.k17
        clear hm hk ha hl hb HK9 HM9 HY9 qy2
        go_wp2_with fail
        have HY11 := hid (show Blk (((w10).setCell ⟨y, 12, none⟩ (i64 (rd W li))).setCell ⟨y, 11, none⟩ (i64 1)) y 94 [i64 2, i64 t, i64 s, i64 g, i64 l, i64 r, i64 k, .slice PA pn pc, .slice LA ln lc, i64 nd, i64 n, i64 (1), i64 (rd W li), i64 (0), i64 0, .bool false, i64 (0)] from (((HY10.out).set 12 _).set 11 _))
        have HKY11 := hid (show Keep (fun k => k = y) w10 (((w10).setCell ⟨y, 12, none⟩ (i64 (rd W li))).setCell ⟨y, 11, none⟩ (i64 1)) from ((((Keep.refl (fun k => k = y) w10)).set ⟨y, 12, none⟩ _ (fun _ => rfl)).set ⟨y, 11, none⟩ _ (fun _ => rfl)))
        clear qy10
        generalize ((w10).setCell ⟨y, 12, none⟩ (i64 (rd W li))).setCell ⟨y, 11, none⟩ (i64 1) = w11 at *
        have qy11 := HY11.out.k17
        go_region
        have HY12 := hid (show Blk ((w11).drew) y 94 [i64 2, i64 t, i64 s, i64 g, i64 l, i64 r, i64 k, .slice PA pn pc, .slice LA ln lc, i64 nd, i64 n, i64 (1), i64 (rd W li), i64 (0), i64 0, .bool false, i64 (0)] from ((HY11.out).drew))
        have HKY12 := hid (show Keep (fun k => k = y) w11 ((w11).drew) from (((Keep.refl (fun k => k = y) w11)).drew))
        clear qy11
        generalize (w11).drew = w12 at *
        have qy12 := HY12.out.k17
        go_wp2_with fail
        have HY13 := hid (show Blk ((((((w12).setCell ⟨y, 13, none⟩ (i64 6)).setCell ⟨y, 14, none⟩ (i64 0)).setCell ⟨y, 15, none⟩ (.bool false)).setCell ⟨y, 16, none⟩ (i64 0)).setCell ⟨y, 11, none⟩ (i64 9)) y 94 [i64 2, i64 t, i64 s, i64 g, i64 l, i64 r, i64 k, .slice PA pn pc, .slice LA ln lc, i64 nd, i64 n, i64 (9), i64 (rd W li), i64 (6), i64 0, .bool false, i64 (0)] from ((((((HY12.out).set 13 _).set 14 _).set 15 _).set 16 _).set 11 _))
        have HKY13 := hid (show Keep (fun k => k = y) w12 ((((((w12).setCell ⟨y, 13, none⟩ (i64 6)).setCell ⟨y, 14, none⟩ (i64 0)).setCell ⟨y, 15, none⟩ (.bool false)).setCell ⟨y, 16, none⟩ (i64 0)).setCell ⟨y, 11, none⟩ (i64 9)) from (((((((Keep.refl (fun k => k = y) w12)).set ⟨y, 13, none⟩ _ (fun _ => rfl)).set ⟨y, 14, none⟩ _ (fun _ => rfl)).set ⟨y, 15, none⟩ _ (fun _ => rfl)).set ⟨y, 16, none⟩ _ (fun _ => rfl)).set ⟨y, 11, none⟩ _ (fun _ => rfl)))
        clear qy12
        generalize (((((w12).setCell ⟨y, 13, none⟩ (i64 6)).setCell ⟨y, 14, none⟩ (i64 0)).setCell ⟨y, 15, none⟩ (.bool false)).setCell ⟨y, 16, none⟩ (i64 0)).setCell ⟨y, 11, none⟩ (i64 9) = w13 at *
        have qy13 := HY13.out.k17
        go_region
        go_wp2_with fail
        go_ret
        exact rshP_of (x' := _) HM10.out HK10.out HA10.out HL10.out HY10.out (((((Keep.refl (fun k => k = y) w10).trans HKY11.out (fun _ _ h => h)).trans HKY12.out (fun _ _ h => h)).trans HKY13.out (fun _ _ h => h)).trans (((Keep.refl (fun k => k = y) w13)).drew) (fun _ _ h => h)) ((HY13.out).drew)
set_option maxHeartbeats 4000000 in
theorem rsh_step20 {saw : Int} {W : List Int} {L : List Acc} (hm : RefAt B w m A ca lv W L) (hy : Blk w y 94 [i64 3, i64 t, i64 s, i64 g, i64 l, i64 r, i64 k, .slice PA pn pc, .slice LA ln lc, i64 nd, i64 n, i64 (0), i64 (saw), i64 (0), i64 0, .bool false, i64 (0)]) (h1 : li < W.length) (h2 : av < W.length) (hne : li ≠ av) (hn : 1 ≤ n ∧ n ≤ 1048576) (hb1 : -4398046511104 ≤ rd W li ∧ rd W li ≤ 4398046511104) (hb2 : -4398046511104 ≤ rd W av ∧ rd W av ≤ 4398046511104) (hb3 : -4398046511104 ≤ saw ∧ saw ≤ 4398046511104) (hL : L.length ≤ 1000000000) (hW : W.length ≤ 1000000) (hs0 : 1 ≤ s) (hs1 : s ≤ 8) (hv0 : 0 ≤ nd) (hv1 : nd ≤ 1000) (hli : (li : Int) = nd * (6 + 2 * s)) (hav : (av : Int) = nd * (6 + 2 * s) + 1) :
    Calls Try.prog 53 #[ptr y, ptr m] w (RShP B w m A lv y 2 t s g l r k PA pn pc LA ln lc nd n (sNext 2 av li n ⟨W, L, 0, saw, false⟩)) := by
  have HY0 : Hid (Blk w y 94 [i64 3, i64 t, i64 s, i64 g, i64 l, i64 r, i64 k, .slice PA pn pc, .slice LA ln lc, i64 nd, i64 n, i64 (0), i64 (saw), i64 (0), i64 0, .bool false, i64 (0)]) := hid hy
  have qy0 := HY0.out.k17
  have HM0 := hid hm
  have HLI := hid hli
  have HAV := hid hav
  have HK0 : Hid (Keep0 w w) := hid (Keep.refl _ _)
  obtain ⟨w0, hw0⟩ : ∃ w0 : World, w0 = w := ⟨_, rfl⟩
  have ym : IntKind.i64.wrap (-n) = -n := IntWalk.i64_in _ (by omega)
  have ya : IntKind.i64.wrap (saw + n) = saw + n := IntWalk.i64_in _ (by omega)
  have yb : IntKind.i64.wrap (saw + -n) = saw + -n := IntWalk.i64_in _ (by omega)
  have yc : IntKind.i64.wrap (saw - n) = saw + -n := by rw [Int.sub_eq_add_neg]; exact yb
  have yd : IntKind.i64.wrap (rd W li + n) = rd W li + n := IntWalk.i64_in _ (by omega)
  clear hy hm hli hav
  cases hr : sRef 2 n (rd W av)
  · have e : sNext 2 av li n ⟨W, L, 0, saw, false⟩ = ⟨W, L ++ [⟨1, av, rd W av, 0, false⟩], 1, rd W av, false⟩ := by simp [sNext, hr]
    rw [e]
    clear e
    have g9 : ¬ (rd W av < n) := by simp [sRef] at hr; omega
    clear hr
    go_enter Try.func53, Try.ntmps53
    go_wp2_with fail
    apply wp_region_text (WI := fun S wx => Keep0 w wx) (by kernel_rfl) (by kernel_rfl)
    case hob =>
      apply Oblig.cons
      case h =>
        intro S w1 hwi hSi hd hcl
        apply StepOk.intro
        intro K hK
        have qy3 := (hwi.blk HY0.out (fun h => h)).k17
        go_simp
        apply hK
        · rfl
        · conv => (lhs; whnf)
        · exact hwi
      simp only [put_lit, put_none, List.set_cons_succ, List.set_cons_zero]
      apply Oblig.cons
      case h =>
        intro S w1 hwi hSi hd hcl
        apply StepOk.intro
        intro K hK
        have qy3 := (hwi.blk HY0.out (fun h => h)).k17
        go_simp
        apply hK
        · rfl
        · conv => (lhs; whnf)
        · exact hwi
      simp only [put_lit, put_none, List.set_cons_succ, List.set_cons_zero]
      apply Oblig.cons
      case h =>
        intro S w1 hwi hSi hd hcl
        apply StepOk.intro
        intro K hK
        have qy3 := (hwi.blk HY0.out (fun h => h)).k17
        go_simp
        apply hK
        · rfl
        · conv => (lhs; whnf)
        · exact hwi
      simp only [put_lit, put_none, List.set_cons_succ, List.set_cons_zero]
      apply Oblig.cons
      case h =>
        intro S w1 hwi hSi hd hcl
        apply StepOk.intro
        intro K hK
        have qy3 := (hwi.blk HY0.out (fun h => h)).k17
        go_simp
        apply hK
        · rfl
        · conv => (lhs; whnf)
        · exact hwi
      simp only [put_lit, put_none, List.set_cons_succ, List.set_cons_zero]
      apply Oblig.cons
      case h =>
        intro S w1 hwi hSi hd hcl
        apply StepOk.intro
        intro K hK
        have qy3 := (hwi.blk HY0.out (fun h => h)).k17
        go_simp
        apply hK
        · rfl
        · conv => (lhs; whnf)
        · exact hwi
      simp only [put_lit, put_none, List.set_cons_succ, List.set_cons_zero]
      apply Oblig.cons
      case h =>
        intro S w1 hwi hSi hd hcl
        apply StepOk.intro
        intro K hK
        have qy3 := (hwi.blk HY0.out (fun h => h)).k17
        go_simp
        apply hK
        · rfl
        · conv => (lhs; whnf)
        · exact hwi
      simp only [put_lit, put_none, List.set_cons_succ, List.set_cons_zero]
      apply Oblig.cons
      case h =>
        intro S w1 hwi hSi hd hcl
        apply StepOk.intro
        intro K hK
        have qy3 := (hwi.blk HY0.out (fun h => h)).k17
        go_simp
        apply hK
        · rfl
        · conv => (lhs; whnf)
        · exact hwi
      simp only [put_lit, put_none, List.set_cons_succ, List.set_cons_zero]
      apply Oblig.cons
      case h =>
        intro S w1 hwi hSi hd hcl
        apply StepOk.intro
        intro K hK
        have qy3 := (hwi.blk HY0.out (fun h => h)).k17
        go_simp
        apply hK
        · rfl
        · conv => (lhs; whnf)
        · exact hwi
      simp only [put_lit, put_none, List.set_cons_succ, List.set_cons_zero]
      apply Oblig.cons
      case h =>
        intro S w1 hwi hSi hd hcl
        apply StepOk.intro
        intro K hK
        have qy3 := (hwi.blk HY0.out (fun h => h)).k17
        go_simp
        refine (show Calls Try.prog 16 #[.agg #[i64 t, i64 s, i64 g, i64 l, i64 r, i64 k, .slice PA pn pc, .slice LA ln lc], i64 nd] w1 (Ret (i64 li) w1) from by have h := ref_Limit t s g l r k PA pn pc LA ln lc nd w1 hs0 hs1 hv0 hv1; rw [← HLI.out] at h; exact h).mono ?_
        rintro e w2 ⟨rfl, hk⟩
        apply hK
        · rfl
        · conv => (lhs; whnf)
        · exact Keep0.step hwi hk
      simp only [put_lit, put_none, List.set_cons_succ, List.set_cons_zero]
      apply Oblig.cons
      case h =>
        intro S w1 hwi hSi hd hcl
        apply StepOk.intro
        intro K hK
        have qy3 := (hwi.blk HY0.out (fun h => h)).k17
        go_simp
        apply hK
        · rfl
        · conv => (lhs; whnf)
        · exact hwi
      simp only [put_lit, put_none, List.set_cons_succ, List.set_cons_zero]
      exact Oblig.nil
    case h0 =>
      exact (Keep.refl _ _).drew
    case hend =>
      intro S wx hwi hall
      obtain ⟨w1, rfl⟩ : ∃ w1 : World, w1 = wx := ⟨_, rfl⟩
      have HY1 := hid (hwi.blk HY0.out (fun h => h))
      have HM1 := hid (HM0.out.keep hwi (fun _ _ h => h))
      have HK1 : Hid (Keep0 w w1) := hid (HK0.out.trans hwi (fun _ _ h => h))
      have qy1 := HY1.out.k17
      clear hwi hall HY0 HM0 HK0 qy0
      go_wp2_with fail
      apply wp_region_text (WI := fun S wx => Keep0 w1 wx) (by kernel_rfl) (by kernel_rfl)
      case hob =>
        apply Oblig.cons
        case h =>
          intro S w1 hwi hSi hd hcl
          apply StepOk.intro
          intro K hK
          have qy3 := (hwi.blk HY1.out (fun h => h)).k17
          go_simp
          apply hK
          · rfl
          · conv => (lhs; whnf)
          · exact hwi
        simp only [put_lit, put_none, List.set_cons_succ, List.set_cons_zero]
        apply Oblig.cons
        case h =>
          intro S w1 hwi hSi hd hcl
          apply StepOk.intro
          intro K hK
          have qy3 := (hwi.blk HY1.out (fun h => h)).k17
          go_simp
          apply hK
          · rfl
          · conv => (lhs; whnf)
          · exact hwi
        simp only [put_lit, put_none, List.set_cons_succ, List.set_cons_zero]
        apply Oblig.cons
        case h =>
          intro S w1 hwi hSi hd hcl
          apply StepOk.intro
          intro K hK
          have qy3 := (hwi.blk HY1.out (fun h => h)).k17
          go_simp
          apply hK
          · rfl
          · conv => (lhs; whnf)
          · exact hwi
        simp only [put_lit, put_none, List.set_cons_succ, List.set_cons_zero]
        apply Oblig.cons
        case h =>
          intro S w1 hwi hSi hd hcl
          apply StepOk.intro
          intro K hK
          have qy3 := (hwi.blk HY1.out (fun h => h)).k17
          go_simp
          apply hK
          · rfl
          · conv => (lhs; whnf)
          · exact hwi
        simp only [put_lit, put_none, List.set_cons_succ, List.set_cons_zero]
        apply Oblig.cons
        case h =>
          intro S w1 hwi hSi hd hcl
          apply StepOk.intro
          intro K hK
          have qy3 := (hwi.blk HY1.out (fun h => h)).k17
          go_simp
          apply hK
          · rfl
          · conv => (lhs; whnf)
          · exact hwi
        simp only [put_lit, put_none, List.set_cons_succ, List.set_cons_zero]
        apply Oblig.cons
        case h =>
          intro S w1 hwi hSi hd hcl
          apply StepOk.intro
          intro K hK
          have qy3 := (hwi.blk HY1.out (fun h => h)).k17
          go_simp
          apply hK
          · rfl
          · conv => (lhs; whnf)
          · exact hwi
        simp only [put_lit, put_none, List.set_cons_succ, List.set_cons_zero]
        apply Oblig.cons
        case h =>
          intro S w1 hwi hSi hd hcl
          apply StepOk.intro
          intro K hK
          have qy3 := (hwi.blk HY1.out (fun h => h)).k17
          go_simp
          apply hK
          · rfl
          · conv => (lhs; whnf)
          · exact hwi
        simp only [put_lit, put_none, List.set_cons_succ, List.set_cons_zero]
        apply Oblig.cons
        case h =>
          intro S w1 hwi hSi hd hcl
          apply StepOk.intro
          intro K hK
          have qy3 := (hwi.blk HY1.out (fun h => h)).k17
          go_simp
          apply hK
          · rfl
          · conv => (lhs; whnf)
          · exact hwi
        simp only [put_lit, put_none, List.set_cons_succ, List.set_cons_zero]
        apply Oblig.cons
        case h =>
          intro S w1 hwi hSi hd hcl
          apply StepOk.intro
          intro K hK
          have qy3 := (hwi.blk HY1.out (fun h => h)).k17
          go_simp
          refine (show Calls Try.prog 17 #[.agg #[i64 t, i64 s, i64 g, i64 l, i64 r, i64 k, .slice PA pn pc, .slice LA ln lc], i64 nd] w1 (Ret (i64 av) w1) from by have h := ref_Avail t s g l r k PA pn pc LA ln lc nd w1 hs0 hs1 hv0 hv1; rw [← HAV.out] at h; exact h).mono ?_
          rintro e w2 ⟨rfl, hk⟩
          apply hK
          · rfl
          · conv => (lhs; whnf)
          · exact Keep0.step hwi hk
        simp only [put_lit, put_none, List.set_cons_succ, List.set_cons_zero]
        apply Oblig.cons
        case h =>
          intro S w1 hwi hSi hd hcl
          apply StepOk.intro
          intro K hK
          have qy3 := (hwi.blk HY1.out (fun h => h)).k17
          go_simp
          apply hK
          · rfl
          · conv => (lhs; whnf)
          · exact hwi
        simp only [put_lit, put_none, List.set_cons_succ, List.set_cons_zero]
        exact Oblig.nil
      case h0 =>
        exact (Keep.refl _ _).drew
      case hend =>
        intro S wx hwi hall
        obtain ⟨w2, rfl⟩ : ∃ w2 : World, w2 = wx := ⟨_, rfl⟩
        have HY2 := hid (hwi.blk HY1.out (fun h => h))
        have HM2 := hid (HM1.out.keep hwi (fun _ _ h => h))
        have HK2 : Hid (Keep0 w w2) := hid (HK1.out.trans hwi (fun _ _ h => h))
        have qy2 := HY2.out.k17
        clear hwi hall HY1 HM1 HK1 qy1
        go_wp2_with fail
        apply wp_region_text (WI := fun S wx => Keep0 w2 wx) (by kernel_rfl) (by kernel_rfl)
        case hob =>
          apply Oblig.cons
          case h =>
            intro S w1 hwi hSi hd hcl
            apply StepOk.intro
            intro K hK
            have qy3 := (hwi.blk HY2.out (fun h => h)).k17
            go_simp
            apply hK
            · rfl
            · conv => (lhs; whnf)
            · exact hwi
          simp only [put_lit, put_none, List.set_cons_succ, List.set_cons_zero]
          apply Oblig.cons
          case h =>
            intro S w1 hwi hSi hd hcl
            apply StepOk.intro
            intro K hK
            have qy3 := (hwi.blk HY2.out (fun h => h)).k17
            go_simp
            apply hK
            · rfl
            · conv => (lhs; whnf)
            · exact hwi
          simp only [put_lit, put_none, List.set_cons_succ, List.set_cons_zero]
          apply Oblig.cons
          case h =>
            intro S w1 hwi hSi hd hcl
            apply StepOk.intro
            intro K hK
            have qy3 := (hwi.blk HY2.out (fun h => h)).k17
            go_simp
            apply hK
            · rfl
            · conv => (lhs; whnf)
            · exact hwi
          simp only [put_lit, put_none, List.set_cons_succ, List.set_cons_zero]
          apply Oblig.cons
          case h =>
            intro S w1 hwi hSi hd hcl
            apply StepOk.intro
            intro K hK
            have qy3 := (hwi.blk HY2.out (fun h => h)).k17
            go_simp
            apply hK
            · rfl
            · conv => (lhs; whnf)
            · exact hwi
          simp only [put_lit, put_none, List.set_cons_succ, List.set_cons_zero]
          apply Oblig.cons
          case h =>
            intro S w1 hwi hSi hd hcl
            apply StepOk.intro
            intro K hK
            have qy3 := (hwi.blk HY2.out (fun h => h)).k17
            go_simp
            apply hK
            · rfl
            · conv => (lhs; whnf)
            · exact hwi
          simp only [put_lit, put_none, List.set_cons_succ, List.set_cons_zero]
          apply Oblig.cons
          case h =>
            intro S w1 hwi hSi hd hcl
            apply StepOk.intro
            intro K hK
            have qy3 := (hwi.blk HY2.out (fun h => h)).k17
            go_simp
            apply hK
            · rfl
            · conv => (lhs; whnf)
            · exact hwi
          simp only [put_lit, put_none, List.set_cons_succ, List.set_cons_zero]
          apply Oblig.cons
          case h =>
            intro S w1 hwi hSi hd hcl
            apply StepOk.intro
            intro K hK
            have qy3 := (hwi.blk HY2.out (fun h => h)).k17
            go_simp
            apply hK
            · rfl
            · conv => (lhs; whnf)
            · exact hwi
          simp only [put_lit, put_none, List.set_cons_succ, List.set_cons_zero]
          apply Oblig.cons
          case h =>
            intro S w1 hwi hSi hd hcl
            apply StepOk.intro
            intro K hK
            have qy3 := (hwi.blk HY2.out (fun h => h)).k17
            go_simp
            apply hK
            · rfl
            · conv => (lhs; whnf)
            · exact hwi
          simp only [put_lit, put_none, List.set_cons_succ, List.set_cons_zero]
          apply Oblig.cons
          case h =>
            intro S w1 hwi hSi hd hcl
            apply StepOk.intro
            intro K hK
            have qy3 := (hwi.blk HY2.out (fun h => h)).k17
            go_simp
            refine (show Calls Try.prog 17 #[.agg #[i64 t, i64 s, i64 g, i64 l, i64 r, i64 k, .slice PA pn pc, .slice LA ln lc], i64 nd] w1 (Ret (i64 av) w1) from by have h := ref_Avail t s g l r k PA pn pc LA ln lc nd w1 hs0 hs1 hv0 hv1; rw [← HAV.out] at h; exact h).mono ?_
            rintro e w2 ⟨rfl, hk⟩
            apply hK
            · rfl
            · conv => (lhs; whnf)
            · exact Keep0.step hwi hk
          simp only [put_lit, put_none, List.set_cons_succ, List.set_cons_zero]
          apply Oblig.cons
          case h =>
            intro S w1 hwi hSi hd hcl
            apply StepOk.intro
            intro K hK
            have qy3 := (hwi.blk HY2.out (fun h => h)).k17
            go_simp
            apply hK
            · rfl
            · conv => (lhs; whnf)
            · exact hwi
          simp only [put_lit, put_none, List.set_cons_succ, List.set_cons_zero]
          exact Oblig.nil
        case h0 =>
          exact (Keep.refl _ _).drew
        case hend =>
          intro S wx hwi hall
          obtain ⟨w3, rfl⟩ : ∃ w3 : World, w3 = wx := ⟨_, rfl⟩
          have HY3 := hid (hwi.blk HY2.out (fun h => h))
          have HM3 := hid (HM2.out.keep hwi (fun _ _ h => h))
          have HK3 : Hid (Keep0 w w3) := hid (HK2.out.trans hwi (fun _ _ h => h))
          have qy3 := HY3.out.k17
          clear hwi hall HY2 HM2 HK2 qy2
          go_wp2_with fail
          apply wp_region_text (WI := fun S wx => Keep0 w3 wx) (by kernel_rfl) (by kernel_rfl)
          case hob =>
            apply Oblig.cons
            case h =>
              intro S w1 hwi hSi hd hcl
              apply StepOk.intro
              intro K hK
              have qy3 := (hwi.blk HY3.out (fun h => h)).k17
              go_simp
              apply hK
              · rfl
              · conv => (lhs; whnf)
              · exact hwi
            simp only [put_lit, put_none, List.set_cons_succ, List.set_cons_zero]
            apply Oblig.cons
            case h =>
              intro S w1 hwi hSi hd hcl
              apply StepOk.intro
              intro K hK
              have qy3 := (hwi.blk HY3.out (fun h => h)).k17
              go_simp
              apply hK
              · rfl
              · conv => (lhs; whnf)
              · exact hwi
            simp only [put_lit, put_none, List.set_cons_succ, List.set_cons_zero]
            apply Oblig.cons
            case h =>
              intro S w1 hwi hSi hd hcl
              apply StepOk.intro
              intro K hK
              have qy3 := (hwi.blk HY3.out (fun h => h)).k17
              go_simp
              apply hK
              · rfl
              · conv => (lhs; whnf)
              · exact hwi
            simp only [put_lit, put_none, List.set_cons_succ, List.set_cons_zero]
            apply Oblig.cons
            case h =>
              intro S w1 hwi hSi hd hcl
              apply StepOk.intro
              intro K hK
              have qy3 := (hwi.blk HY3.out (fun h => h)).k17
              go_simp
              apply hK
              · rfl
              · conv => (lhs; whnf)
              · exact hwi
            simp only [put_lit, put_none, List.set_cons_succ, List.set_cons_zero]
            apply Oblig.cons
            case h =>
              intro S w1 hwi hSi hd hcl
              apply StepOk.intro
              intro K hK
              have qy3 := (hwi.blk HY3.out (fun h => h)).k17
              go_simp
              apply hK
              · rfl
              · conv => (lhs; whnf)
              · exact hwi
            simp only [put_lit, put_none, List.set_cons_succ, List.set_cons_zero]
            apply Oblig.cons
            case h =>
              intro S w1 hwi hSi hd hcl
              apply StepOk.intro
              intro K hK
              have qy3 := (hwi.blk HY3.out (fun h => h)).k17
              go_simp
              apply hK
              · rfl
              · conv => (lhs; whnf)
              · exact hwi
            simp only [put_lit, put_none, List.set_cons_succ, List.set_cons_zero]
            apply Oblig.cons
            case h =>
              intro S w1 hwi hSi hd hcl
              apply StepOk.intro
              intro K hK
              have qy3 := (hwi.blk HY3.out (fun h => h)).k17
              go_simp
              apply hK
              · rfl
              · conv => (lhs; whnf)
              · exact hwi
            simp only [put_lit, put_none, List.set_cons_succ, List.set_cons_zero]
            apply Oblig.cons
            case h =>
              intro S w1 hwi hSi hd hcl
              apply StepOk.intro
              intro K hK
              have qy3 := (hwi.blk HY3.out (fun h => h)).k17
              go_simp
              apply hK
              · rfl
              · conv => (lhs; whnf)
              · exact hwi
            simp only [put_lit, put_none, List.set_cons_succ, List.set_cons_zero]
            apply Oblig.cons
            case h =>
              intro S w1 hwi hSi hd hcl
              apply StepOk.intro
              intro K hK
              have qy3 := (hwi.blk HY3.out (fun h => h)).k17
              go_simp
              refine (show Calls Try.prog 16 #[.agg #[i64 t, i64 s, i64 g, i64 l, i64 r, i64 k, .slice PA pn pc, .slice LA ln lc], i64 nd] w1 (Ret (i64 li) w1) from by have h := ref_Limit t s g l r k PA pn pc LA ln lc nd w1 hs0 hs1 hv0 hv1; rw [← HLI.out] at h; exact h).mono ?_
              rintro e w2 ⟨rfl, hk⟩
              apply hK
              · rfl
              · conv => (lhs; whnf)
              · exact Keep0.step hwi hk
            simp only [put_lit, put_none, List.set_cons_succ, List.set_cons_zero]
            apply Oblig.cons
            case h =>
              intro S w1 hwi hSi hd hcl
              apply StepOk.intro
              intro K hK
              have qy3 := (hwi.blk HY3.out (fun h => h)).k17
              go_simp
              apply hK
              · rfl
              · conv => (lhs; whnf)
              · exact hwi
            simp only [put_lit, put_none, List.set_cons_succ, List.set_cons_zero]
            exact Oblig.nil
          case h0 =>
            exact (Keep.refl _ _).drew
          case hend =>
            intro S wx hwi hall
            obtain ⟨w4, rfl⟩ : ∃ w4 : World, w4 = wx := ⟨_, rfl⟩
            have HY4 := hid (hwi.blk HY3.out (fun h => h))
            have HM4 := hid (HM3.out.keep hwi (fun _ _ h => h))
            have HK4 : Hid (Keep0 w w4) := hid (HK3.out.trans hwi (fun _ _ h => h))
            have qy4 := HY4.out.k17
            clear hwi hall HY3 HM3 HK3 qy3
            go_wp2_with fail
            obtain ⟨w9, rfl⟩ : ∃ w9 : World, w9 = w4 := ⟨_, rfl⟩
            have HY9 := hid HY4.out
            have HM9 := hid HM4.out
            have HK9 := hid HK4.out
            clear HY4 HM4 HK4
            refine (ref_LoadN' av HM9.out (by omega) hL).mono ?_
            rintro e w10 ⟨rfl, A3, c3, lv3, hm, hk, ha, hl⟩
            have hb := hk.blk HY9.out (rs_far HM9.out HY9.out)
            have HK10 := hid ((HK9.out.mono (T := fun b => b = m ∨ lv.ownBlock = some b) (fun _ h => h.elim)).trans hk (fun _ _ h => h))
            have HM10 := hid hm
            have HY10 := hid hb
            have HA10 := hid (fun b h => (ha b h).imp id (fun h => Nat.le_trans HK9.out.size h))
            have HL10 := hid (fun b h => (hl b h).imp id (fun h => Nat.le_trans HK9.out.size h))
            have qy10 := hb.k17
            clear hm hk ha hl hb HK9 HM9 HY9 qy4
            go_wp2_with fail
            have HY11 := hid (show Blk (((w10).setCell ⟨y, 12, none⟩ (i64 (rd W av))).setCell ⟨y, 11, none⟩ (i64 1)) y 94 [i64 3, i64 t, i64 s, i64 g, i64 l, i64 r, i64 k, .slice PA pn pc, .slice LA ln lc, i64 nd, i64 n, i64 (1), i64 (rd W av), i64 (0), i64 0, .bool false, i64 (0)] from (((HY10.out).set 12 _).set 11 _))
            have HKY11 := hid (show Keep (fun k => k = y) w10 (((w10).setCell ⟨y, 12, none⟩ (i64 (rd W av))).setCell ⟨y, 11, none⟩ (i64 1)) from ((((Keep.refl (fun k => k = y) w10)).set ⟨y, 12, none⟩ _ (fun _ => rfl)).set ⟨y, 11, none⟩ _ (fun _ => rfl)))
            clear qy10
            generalize ((w10).setCell ⟨y, 12, none⟩ (i64 (rd W av))).setCell ⟨y, 11, none⟩ (i64 1) = w11 at *
            have qy11 := HY11.out.k17
            go_region
            have HY12 := hid (show Blk ((w11).drew) y 94 [i64 3, i64 t, i64 s, i64 g, i64 l, i64 r, i64 k, .slice PA pn pc, .slice LA ln lc, i64 nd, i64 n, i64 (1), i64 (rd W av), i64 (0), i64 0, .bool false, i64 (0)] from ((HY11.out).drew))
            have HKY12 := hid (show Keep (fun k => k = y) w11 ((w11).drew) from (((Keep.refl (fun k => k = y) w11)).drew))
            clear qy11
            generalize (w11).drew = w12 at *
            have qy12 := HY12.out.k17
            go_wp2_with fail
            go_region
            have HY13 := hid (show Blk ((w12).drew) y 94 [i64 3, i64 t, i64 s, i64 g, i64 l, i64 r, i64 k, .slice PA pn pc, .slice LA ln lc, i64 nd, i64 n, i64 (1), i64 (rd W av), i64 (0), i64 0, .bool false, i64 (0)] from ((HY12.out).drew))
            have HKY13 := hid (show Keep (fun k => k = y) w12 ((w12).drew) from (((Keep.refl (fun k => k = y) w12)).drew))
            clear qy12
            generalize (w12).drew = w13 at *
            have qy13 := HY13.out.k17
            go_wp2_with fail
            go_ret
            exact rshP_of (x' := _) HM10.out HK10.out HA10.out HL10.out HY10.out (((((Keep.refl (fun k => k = y) w10).trans HKY11.out (fun _ _ h => h)).trans HKY12.out (fun _ _ h => h)).trans HKY13.out (fun _ _ h => h)).trans ((Keep.refl (fun k => k = y) w13)) (fun _ _ h => h)) (HY13.out)
  · have e : sNext 2 av li n ⟨W, L, 0, saw, false⟩ = ⟨W, L ++ [⟨1, av, rd W av, 0, false⟩], 3, rd W av, true⟩ := by simp [sNext, hr]
    rw [e]
    clear e
    have g9 : (rd W av < n) := by simp [sRef] at hr; omega
    clear hr
    go_enter Try.func53, Try.ntmps53
    go_wp2_with fail
    apply wp_region_text (WI := fun S wx => Keep0 w wx) (by kernel_rfl) (by kernel_rfl)
    case hob =>
      apply Oblig.cons
      case h =>
        intro S w1 hwi hSi hd hcl
        apply StepOk.intro
        intro K hK
        have qy3 := (hwi.blk HY0.out (fun h => h)).k17
        go_simp
        apply hK
        · rfl
        · conv => (lhs; whnf)
        · exact hwi
      simp only [put_lit, put_none, List.set_cons_succ, List.set_cons_zero]
      apply Oblig.cons
      case h =>
        intro S w1 hwi hSi hd hcl
        apply StepOk.intro
        intro K hK
        have qy3 := (hwi.blk HY0.out (fun h => h)).k17
        go_simp
        apply hK
        · rfl
        · conv => (lhs; whnf)
        · exact hwi
      simp only [put_lit, put_none, List.set_cons_succ, List.set_cons_zero]
      apply Oblig.cons
      case h =>
        intro S w1 hwi hSi hd hcl
        apply StepOk.intro
        intro K hK
        have qy3 := (hwi.blk HY0.out (fun h => h)).k17
        go_simp
        apply hK
        · rfl
        · conv => (lhs; whnf)
        · exact hwi
      simp only [put_lit, put_none, List.set_cons_succ, List.set_cons_zero]
      apply Oblig.cons
      case h =>
        intro S w1 hwi hSi hd hcl
        apply StepOk.intro
        intro K hK
        have qy3 := (hwi.blk HY0.out (fun h => h)).k17
        go_simp
        apply hK
        · rfl
        · conv => (lhs; whnf)
        · exact hwi
      simp only [put_lit, put_none, List.set_cons_succ, List.set_cons_zero]
      apply Oblig.cons
      case h =>
        intro S w1 hwi hSi hd hcl
        apply StepOk.intro
        intro K hK
        have qy3 := (hwi.blk HY0.out (fun h => h)).k17
        go_simp
        apply hK
        · rfl
        · conv => (lhs; whnf)
        · exact hwi
      simp only [put_lit, put_none, List.set_cons_succ, List.set_cons_zero]
      apply Oblig.cons
      case h =>
        intro S w1 hwi hSi hd hcl
        apply StepOk.intro
        intro K hK
        have qy3 := (hwi.blk HY0.out (fun h => h)).k17
        go_simp
        apply hK
        · rfl
        · conv => (lhs; whnf)
        · exact hwi
      simp only [put_lit, put_none, List.set_cons_succ, List.set_cons_zero]
      apply Oblig.cons
      case h =>
        intro S w1 hwi hSi hd hcl
        apply StepOk.intro
        intro K hK
        have qy3 := (hwi.blk HY0.out (fun h => h)).k17
        go_simp
        apply hK
        · rfl
        · conv => (lhs; whnf)
        · exact hwi
      simp only [put_lit, put_none, List.set_cons_succ, List.set_cons_zero]
      apply Oblig.cons
      case h =>
        intro S w1 hwi hSi hd hcl
        apply StepOk.intro
        intro K hK
        have qy3 := (hwi.blk HY0.out (fun h => h)).k17
        go_simp
        apply hK
        · rfl
        · conv => (lhs; whnf)
        · exact hwi
      simp only [put_lit, put_none, List.set_cons_succ, List.set_cons_zero]
      apply Oblig.cons
      case h =>
        intro S w1 hwi hSi hd hcl
        apply StepOk.intro
        intro K hK
        have qy3 := (hwi.blk HY0.out (fun h => h)).k17
        go_simp
        refine (show Calls Try.prog 16 #[.agg #[i64 t, i64 s, i64 g, i64 l, i64 r, i64 k, .slice PA pn pc, .slice LA ln lc], i64 nd] w1 (Ret (i64 li) w1) from by have h := ref_Limit t s g l r k PA pn pc LA ln lc nd w1 hs0 hs1 hv0 hv1; rw [← HLI.out] at h; exact h).mono ?_
        rintro e w2 ⟨rfl, hk⟩
        apply hK
        · rfl
        · conv => (lhs; whnf)
        · exact Keep0.step hwi hk
      simp only [put_lit, put_none, List.set_cons_succ, List.set_cons_zero]
      apply Oblig.cons
      case h =>
        intro S w1 hwi hSi hd hcl
        apply StepOk.intro
        intro K hK
        have qy3 := (hwi.blk HY0.out (fun h => h)).k17
        go_simp
        apply hK
        · rfl
        · conv => (lhs; whnf)
        · exact hwi
      simp only [put_lit, put_none, List.set_cons_succ, List.set_cons_zero]
      exact Oblig.nil
    case h0 =>
      exact (Keep.refl _ _).drew
    case hend =>
      intro S wx hwi hall
      obtain ⟨w1, rfl⟩ : ∃ w1 : World, w1 = wx := ⟨_, rfl⟩
      have HY1 := hid (hwi.blk HY0.out (fun h => h))
      have HM1 := hid (HM0.out.keep hwi (fun _ _ h => h))
      have HK1 : Hid (Keep0 w w1) := hid (HK0.out.trans hwi (fun _ _ h => h))
      have qy1 := HY1.out.k17
      clear hwi hall HY0 HM0 HK0 qy0
      go_wp2_with fail
      apply wp_region_text (WI := fun S wx => Keep0 w1 wx) (by kernel_rfl) (by kernel_rfl)
      case hob =>
        apply Oblig.cons
        case h =>
          intro S w1 hwi hSi hd hcl
          apply StepOk.intro
          intro K hK
          have qy3 := (hwi.blk HY1.out (fun h => h)).k17
          go_simp
          apply hK
          · rfl
          · conv => (lhs; whnf)
          · exact hwi
        simp only [put_lit, put_none, List.set_cons_succ, List.set_cons_zero]
        apply Oblig.cons
        case h =>
          intro S w1 hwi hSi hd hcl
          apply StepOk.intro
          intro K hK
          have qy3 := (hwi.blk HY1.out (fun h => h)).k17
          go_simp
          apply hK
          · rfl
          · conv => (lhs; whnf)
          · exact hwi
        simp only [put_lit, put_none, List.set_cons_succ, List.set_cons_zero]
        apply Oblig.cons
        case h =>
          intro S w1 hwi hSi hd hcl
          apply StepOk.intro
          intro K hK
          have qy3 := (hwi.blk HY1.out (fun h => h)).k17
          go_simp
          apply hK
          · rfl
          · conv => (lhs; whnf)
          · exact hwi
        simp only [put_lit, put_none, List.set_cons_succ, List.set_cons_zero]
        apply Oblig.cons
        case h =>
          intro S w1 hwi hSi hd hcl
          apply StepOk.intro
          intro K hK
          have qy3 := (hwi.blk HY1.out (fun h => h)).k17
          go_simp
          apply hK
          · rfl
          · conv => (lhs; whnf)
          · exact hwi
        simp only [put_lit, put_none, List.set_cons_succ, List.set_cons_zero]
        apply Oblig.cons
        case h =>
          intro S w1 hwi hSi hd hcl
          apply StepOk.intro
          intro K hK
          have qy3 := (hwi.blk HY1.out (fun h => h)).k17
          go_simp
          apply hK
          · rfl
          · conv => (lhs; whnf)
          · exact hwi
        simp only [put_lit, put_none, List.set_cons_succ, List.set_cons_zero]
        apply Oblig.cons
        case h =>
          intro S w1 hwi hSi hd hcl
          apply StepOk.intro
          intro K hK
          have qy3 := (hwi.blk HY1.out (fun h => h)).k17
          go_simp
          apply hK
          · rfl
          · conv => (lhs; whnf)
          · exact hwi
        simp only [put_lit, put_none, List.set_cons_succ, List.set_cons_zero]
        apply Oblig.cons
        case h =>
          intro S w1 hwi hSi hd hcl
          apply StepOk.intro
          intro K hK
          have qy3 := (hwi.blk HY1.out (fun h => h)).k17
          go_simp
          apply hK
          · rfl
          · conv => (lhs; whnf)
          · exact hwi
        simp only [put_lit, put_none, List.set_cons_succ, List.set_cons_zero]
        apply Oblig.cons
        case h =>
          intro S w1 hwi hSi hd hcl
          apply StepOk.intro
          intro K hK
          have qy3 := (hwi.blk HY1.out (fun h => h)).k17
          go_simp
          apply hK
          · rfl
          · conv => (lhs; whnf)
          · exact hwi
        simp only [put_lit, put_none, List.set_cons_succ, List.set_cons_zero]
        apply Oblig.cons
        case h =>
          intro S w1 hwi hSi hd hcl
          apply StepOk.intro
          intro K hK
          have qy3 := (hwi.blk HY1.out (fun h => h)).k17
          go_simp
          refine (show Calls Try.prog 17 #[.agg #[i64 t, i64 s, i64 g, i64 l, i64 r, i64 k, .slice PA pn pc, .slice LA ln lc], i64 nd] w1 (Ret (i64 av) w1) from by have h := ref_Avail t s g l r k PA pn pc LA ln lc nd w1 hs0 hs1 hv0 hv1; rw [← HAV.out] at h; exact h).mono ?_
          rintro e w2 ⟨rfl, hk⟩
          apply hK
          · rfl
          · conv => (lhs; whnf)
          · exact Keep0.step hwi hk
        simp only [put_lit, put_none, List.set_cons_succ, List.set_cons_zero]
        apply Oblig.cons
        case h =>
          intro S w1 hwi hSi hd hcl
          apply StepOk.intro
          intro K hK
          have qy3 := (hwi.blk HY1.out (fun h => h)).k17
          go_simp
          apply hK
          · rfl
          · conv => (lhs; whnf)
          · exact hwi
        simp only [put_lit, put_none, List.set_cons_succ, List.set_cons_zero]
        exact Oblig.nil
      case h0 =>
        exact (Keep.refl _ _).drew
      case hend =>
        intro S wx hwi hall
        obtain ⟨w2, rfl⟩ : ∃ w2 : World, w2 = wx := ⟨_, rfl⟩
        have HY2 := hid (hwi.blk HY1.out (fun h => h))
        have HM2 := hid (HM1.out.keep hwi (fun _ _ h => h))
        have HK2 : Hid (Keep0 w w2) := hid (HK1.out.trans hwi (fun _ _ h => h))
        have qy2 := HY2.out.k17
        clear hwi hall HY1 HM1 HK1 qy1
        go_wp2_with fail
        apply wp_region_text (WI := fun S wx => Keep0 w2 wx) (by kernel_rfl) (by kernel_rfl)
        case hob =>
          apply Oblig.cons
          case h =>
            intro S w1 hwi hSi hd hcl
            apply StepOk.intro
            intro K hK
            have qy3 := (hwi.blk HY2.out (fun h => h)).k17
            go_simp
            apply hK
            · rfl
            · conv => (lhs; whnf)
            · exact hwi
          simp only [put_lit, put_none, List.set_cons_succ, List.set_cons_zero]
          apply Oblig.cons
          case h =>
            intro S w1 hwi hSi hd hcl
            apply StepOk.intro
            intro K hK
            have qy3 := (hwi.blk HY2.out (fun h => h)).k17
            go_simp
            apply hK
            · rfl
            · conv => (lhs; whnf)
            · exact hwi
          simp only [put_lit, put_none, List.set_cons_succ, List.set_cons_zero]
          apply Oblig.cons
          case h =>
            intro S w1 hwi hSi hd hcl
            apply StepOk.intro
            intro K hK
            have qy3 := (hwi.blk HY2.out (fun h => h)).k17
            go_simp
            apply hK
            · rfl
            · conv => (lhs; whnf)
            · exact hwi
          simp only [put_lit, put_none, List.set_cons_succ, List.set_cons_zero]
          apply Oblig.cons
          case h =>
            intro S w1 hwi hSi hd hcl
            apply StepOk.intro
            intro K hK
            have qy3 := (hwi.blk HY2.out (fun h => h)).k17
            go_simp
            apply hK
            · rfl
            · conv => (lhs; whnf)
            · exact hwi
          simp only [put_lit, put_none, List.set_cons_succ, List.set_cons_zero]
          apply Oblig.cons
          case h =>
            intro S w1 hwi hSi hd hcl
            apply StepOk.intro
            intro K hK
            have qy3 := (hwi.blk HY2.out (fun h => h)).k17
            go_simp
            apply hK
            · rfl
            · conv => (lhs; whnf)
            · exact hwi
          simp only [put_lit, put_none, List.set_cons_succ, List.set_cons_zero]
          apply Oblig.cons
          case h =>
            intro S w1 hwi hSi hd hcl
            apply StepOk.intro
            intro K hK
            have qy3 := (hwi.blk HY2.out (fun h => h)).k17
            go_simp
            apply hK
            · rfl
            · conv => (lhs; whnf)
            · exact hwi
          simp only [put_lit, put_none, List.set_cons_succ, List.set_cons_zero]
          apply Oblig.cons
          case h =>
            intro S w1 hwi hSi hd hcl
            apply StepOk.intro
            intro K hK
            have qy3 := (hwi.blk HY2.out (fun h => h)).k17
            go_simp
            apply hK
            · rfl
            · conv => (lhs; whnf)
            · exact hwi
          simp only [put_lit, put_none, List.set_cons_succ, List.set_cons_zero]
          apply Oblig.cons
          case h =>
            intro S w1 hwi hSi hd hcl
            apply StepOk.intro
            intro K hK
            have qy3 := (hwi.blk HY2.out (fun h => h)).k17
            go_simp
            apply hK
            · rfl
            · conv => (lhs; whnf)
            · exact hwi
          simp only [put_lit, put_none, List.set_cons_succ, List.set_cons_zero]
          apply Oblig.cons
          case h =>
            intro S w1 hwi hSi hd hcl
            apply StepOk.intro
            intro K hK
            have qy3 := (hwi.blk HY2.out (fun h => h)).k17
            go_simp
            refine (show Calls Try.prog 17 #[.agg #[i64 t, i64 s, i64 g, i64 l, i64 r, i64 k, .slice PA pn pc, .slice LA ln lc], i64 nd] w1 (Ret (i64 av) w1) from by have h := ref_Avail t s g l r k PA pn pc LA ln lc nd w1 hs0 hs1 hv0 hv1; rw [← HAV.out] at h; exact h).mono ?_
            rintro e w2 ⟨rfl, hk⟩
            apply hK
            · rfl
            · conv => (lhs; whnf)
            · exact Keep0.step hwi hk
          simp only [put_lit, put_none, List.set_cons_succ, List.set_cons_zero]
          apply Oblig.cons
          case h =>
            intro S w1 hwi hSi hd hcl
            apply StepOk.intro
            intro K hK
            have qy3 := (hwi.blk HY2.out (fun h => h)).k17
            go_simp
            apply hK
            · rfl
            · conv => (lhs; whnf)
            · exact hwi
          simp only [put_lit, put_none, List.set_cons_succ, List.set_cons_zero]
          exact Oblig.nil
        case h0 =>
          exact (Keep.refl _ _).drew
        case hend =>
          intro S wx hwi hall
          obtain ⟨w3, rfl⟩ : ∃ w3 : World, w3 = wx := ⟨_, rfl⟩
          have HY3 := hid (hwi.blk HY2.out (fun h => h))
          have HM3 := hid (HM2.out.keep hwi (fun _ _ h => h))
          have HK3 : Hid (Keep0 w w3) := hid (HK2.out.trans hwi (fun _ _ h => h))
          have qy3 := HY3.out.k17
          clear hwi hall HY2 HM2 HK2 qy2
          go_wp2_with fail
          apply wp_region_text (WI := fun S wx => Keep0 w3 wx) (by kernel_rfl) (by kernel_rfl)
          case hob =>
            apply Oblig.cons
            case h =>
              intro S w1 hwi hSi hd hcl
              apply StepOk.intro
              intro K hK
              have qy3 := (hwi.blk HY3.out (fun h => h)).k17
              go_simp
              apply hK
              · rfl
              · conv => (lhs; whnf)
              · exact hwi
            simp only [put_lit, put_none, List.set_cons_succ, List.set_cons_zero]
            apply Oblig.cons
            case h =>
              intro S w1 hwi hSi hd hcl
              apply StepOk.intro
              intro K hK
              have qy3 := (hwi.blk HY3.out (fun h => h)).k17
              go_simp
              apply hK
              · rfl
              · conv => (lhs; whnf)
              · exact hwi
            simp only [put_lit, put_none, List.set_cons_succ, List.set_cons_zero]
            apply Oblig.cons
            case h =>
              intro S w1 hwi hSi hd hcl
              apply StepOk.intro
              intro K hK
              have qy3 := (hwi.blk HY3.out (fun h => h)).k17
              go_simp
              apply hK
              · rfl
              · conv => (lhs; whnf)
              · exact hwi
            simp only [put_lit, put_none, List.set_cons_succ, List.set_cons_zero]
            apply Oblig.cons
            case h =>
              intro S w1 hwi hSi hd hcl
              apply StepOk.intro
              intro K hK
              have qy3 := (hwi.blk HY3.out (fun h => h)).k17
              go_simp
              apply hK
              · rfl
              · conv => (lhs; whnf)
              · exact hwi
            simp only [put_lit, put_none, List.set_cons_succ, List.set_cons_zero]
            apply Oblig.cons
            case h =>
              intro S w1 hwi hSi hd hcl
              apply StepOk.intro
              intro K hK
              have qy3 := (hwi.blk HY3.out (fun h => h)).k17
              go_simp
              apply hK
              · rfl
              · conv => (lhs; whnf)
              · exact hwi
            simp only [put_lit, put_none, List.set_cons_succ, List.set_cons_zero]
            apply Oblig.cons
            case h =>
              intro S w1 hwi hSi hd hcl
              apply StepOk.intro
              intro K hK
              have qy3 := (hwi.blk HY3.out (fun h => h)).k17
              go_simp
              apply hK
              · rfl
              · conv => (lhs; whnf)
              · exact hwi
            simp only [put_lit, put_none, List.set_cons_succ, List.set_cons_zero]
            apply Oblig.cons
            case h =>
              intro S w1 hwi hSi hd hcl
              apply StepOk.intro
              intro K hK
              have qy3 := (hwi.blk HY3.out (fun h => h)).k17
              go_simp
              apply hK
              · rfl
              · conv => (lhs; whnf)
              · exact hwi
            simp only [put_lit, put_none, List.set_cons_succ, List.set_cons_zero]
            apply Oblig.cons
            case h =>
              intro S w1 hwi hSi hd hcl
              apply StepOk.intro
              intro K hK
              have qy3 := (hwi.blk HY3.out (fun h => h)).k17
              go_simp
              apply hK
              · rfl
              · conv => (lhs; whnf)
              · exact hwi
            simp only [put_lit, put_none, List.set_cons_succ, List.set_cons_zero]
            apply Oblig.cons
            case h =>
              intro S w1 hwi hSi hd hcl
              apply StepOk.intro
              intro K hK
              have qy3 := (hwi.blk HY3.out (fun h => h)).k17
              go_simp
              refine (show Calls Try.prog 16 #[.agg #[i64 t, i64 s, i64 g, i64 l, i64 r, i64 k, .slice PA pn pc, .slice LA ln lc], i64 nd] w1 (Ret (i64 li) w1) from by have h := ref_Limit t s g l r k PA pn pc LA ln lc nd w1 hs0 hs1 hv0 hv1; rw [← HLI.out] at h; exact h).mono ?_
              rintro e w2 ⟨rfl, hk⟩
              apply hK
              · rfl
              · conv => (lhs; whnf)
              · exact Keep0.step hwi hk
            simp only [put_lit, put_none, List.set_cons_succ, List.set_cons_zero]
            apply Oblig.cons
            case h =>
              intro S w1 hwi hSi hd hcl
              apply StepOk.intro
              intro K hK
              have qy3 := (hwi.blk HY3.out (fun h => h)).k17
              go_simp
              apply hK
              · rfl
              · conv => (lhs; whnf)
              · exact hwi
            simp only [put_lit, put_none, List.set_cons_succ, List.set_cons_zero]
            exact Oblig.nil
          case h0 =>
            exact (Keep.refl _ _).drew
          case hend =>
            intro S wx hwi hall
            obtain ⟨w4, rfl⟩ : ∃ w4 : World, w4 = wx := ⟨_, rfl⟩
            have HY4 := hid (hwi.blk HY3.out (fun h => h))
            have HM4 := hid (HM3.out.keep hwi (fun _ _ h => h))
            have HK4 : Hid (Keep0 w w4) := hid (HK3.out.trans hwi (fun _ _ h => h))
            have qy4 := HY4.out.k17
            clear hwi hall HY3 HM3 HK3 qy3
            go_wp2_with fail
            obtain ⟨w9, rfl⟩ : ∃ w9 : World, w9 = w4 := ⟨_, rfl⟩
            have HY9 := hid HY4.out
            have HM9 := hid HM4.out
            have HK9 := hid HK4.out
            clear HY4 HM4 HK4
            refine (ref_LoadN' av HM9.out (by omega) hL).mono ?_
            rintro e w10 ⟨rfl, A3, c3, lv3, hm, hk, ha, hl⟩
            have hb := hk.blk HY9.out (rs_far HM9.out HY9.out)
            have HK10 := hid ((HK9.out.mono (T := fun b => b = m ∨ lv.ownBlock = some b) (fun _ h => h.elim)).trans hk (fun _ _ h => h))
            have HM10 := hid hm
            have HY10 := hid hb
            have HA10 := hid (fun b h => (ha b h).imp id (fun h => Nat.le_trans HK9.out.size h))
            have HL10 := hid (fun b h => (hl b h).imp id (fun h => Nat.le_trans HK9.out.size h))
            have qy10 := hb.k17
            clear hm hk ha hl hb HK9 HM9 HY9 qy4
            go_wp2_with fail
            have HY11 := hid (show Blk (((w10).setCell ⟨y, 12, none⟩ (i64 (rd W av))).setCell ⟨y, 11, none⟩ (i64 1)) y 94 [i64 3, i64 t, i64 s, i64 g, i64 l, i64 r, i64 k, .slice PA pn pc, .slice LA ln lc, i64 nd, i64 n, i64 (1), i64 (rd W av), i64 (0), i64 0, .bool false, i64 (0)] from (((HY10.out).set 12 _).set 11 _))
            have HKY11 := hid (show Keep (fun k => k = y) w10 (((w10).setCell ⟨y, 12, none⟩ (i64 (rd W av))).setCell ⟨y, 11, none⟩ (i64 1)) from ((((Keep.refl (fun k => k = y) w10)).set ⟨y, 12, none⟩ _ (fun _ => rfl)).set ⟨y, 11, none⟩ _ (fun _ => rfl)))
            clear qy10
            generalize ((w10).setCell ⟨y, 12, none⟩ (i64 (rd W av))).setCell ⟨y, 11, none⟩ (i64 1) = w11 at *
            have qy11 := HY11.out.k17
            go_region
            have HY12 := hid (show Blk ((w11).drew) y 94 [i64 3, i64 t, i64 s, i64 g, i64 l, i64 r, i64 k, .slice PA pn pc, .slice LA ln lc, i64 nd, i64 n, i64 (1), i64 (rd W av), i64 (0), i64 0, .bool false, i64 (0)] from ((HY11.out).drew))
            have HKY12 := hid (show Keep (fun k => k = y) w11 ((w11).drew) from (((Keep.refl (fun k => k = y) w11)).drew))
            clear qy11
            generalize (w11).drew = w12 at *
            have qy12 := HY12.out.k17
            go_wp2_with fail
            go_region
            have HY13 := hid (show Blk ((w12).drew) y 94 [i64 3, i64 t, i64 s, i64 g, i64 l, i64 r, i64 k, .slice PA pn pc, .slice LA ln lc, i64 nd, i64 n, i64 (1), i64 (rd W av), i64 (0), i64 0, .bool false, i64 (0)] from ((HY12.out).drew))
            have HKY13 := hid (show Keep (fun k => k = y) w12 ((w12).drew) from (((Keep.refl (fun k => k = y) w12)).drew))
            clear qy12
            generalize (w12).drew = w13 at *
            have qy13 := HY13.out.k17
            go_wp2_with fail
            go_ret
            exact rshP_of (x' := _) HM10.out HK10.out HA10.out HL10.out HY10.out (((((Keep.refl (fun k => k = y) w10).trans HKY11.out (fun _ _ h => h)).trans HKY12.out (fun _ _ h => h)).trans HKY13.out (fun _ _ h => h)).trans (((((((Keep.refl (fun k => k = y) w13)).set ⟨y, 13, none⟩ _ (fun _ => rfl)).set ⟨y, 14, none⟩ _ (fun _ => rfl)).set ⟨y, 15, none⟩ _ (fun _ => rfl)).set ⟨y, 16, none⟩ _ (fun _ => rfl)).set ⟨y, 11, none⟩ _ (fun _ => rfl)) (fun _ _ h => h)) ((((((HY13.out).set 13 _).set 14 _).set 15 _).set 16 _).set 11 _)
end
end Go.Proofs.Ytonekdolmbdniaa
