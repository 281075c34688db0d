/- breadlinelaw03: right, done, want. -/
import Derived.Test.YtdjfeapncpcmgaaRefOps
namespace Go.Proofs.Ytdjfeapncpcmgaa
open Go.RowKit
set_option linter.unusedVariables false
set_option linter.unusedSimpArgs false

structure MOp where
  kind : Int
  w : Int
  a : Int
  b : Int
def MOp.cells (o : MOp) : List Value := [i64 o.kind, i64 o.w, i64 o.a, i64 o.b]
def MOp.ok (o : MOp) (n : Int) : Bool := decide (1 ≤ o.kind) && decide (o.kind ≤ 5) && decide (0 ≤ o.w) && decide (o.w < n)
def opW (o : MOp) (W : List Int) : List Int :=
  if o.kind = 1 then W else if o.kind = 2 then W.set o.w.toNat (wrap64 (rd W o.w.toNat + o.a)) else if o.kind = 3 then casW W o.w.toNat o.a o.b else W.set o.w.toNat o.a
def opX (o : MOp) (W : List Int) : Int := if o.kind = 1 then rd W o.w.toNat else if o.kind = 2 then wrap64 (rd W o.w.toNat + o.a) else 0
def opP (o : MOp) (W : List Int) : Bool := if o.kind = 3 then rd W o.w.toNat == o.a else false
def opL (o : MOp) (W : List Int) : List Acc :=
  if o.kind = 1 then [⟨1, o.w, rd W o.w.toNat, 0, false⟩] else if o.kind = 2 then [⟨2, o.w, o.a, wrap64 (rd W o.w.toNat + o.a), false⟩] else if o.kind = 3 then [⟨3, o.w, o.a, o.b, rd W o.w.toNat == o.a⟩] else if o.kind = 4 then [⟨4, o.w, o.a, 0, false⟩] else []
theorem opW_length (o : MOp) (W : List Int) : (opW o W).length = W.length := by
  unfold opW
  repeat (first | split | simp [casW_length])

set_option maxHeartbeats 1000000 in
theorem law_right (o : MOp) (n : Int) (w : World) : Calls Try.prog 12 #[.agg #[i64 o.kind, i64 o.w, i64 o.a, i64 o.b], i64 n] w (Ret (.bool (o.ok n)) w) := by
  obtain ⟨ok, ow, oa, ob⟩ := o
  go_enter Try.func12, Try.ntmps12
  go_wp2
  all_goals
    go_ret
    refine ⟨?_, (Keep.refl _ _).alloc _⟩
    first | (simp_all [MOp.ok]; done) | (simp_all [MOp.ok]; intros; omega)

section
variable {B : Nat} {w : World} {m a : Nat} {lv : Value} {W : List Int} {L : List Acc}
set_option maxHeartbeats 2000000 in
theorem law_done (o : MOp) (n : Int) (hm : MemAt B w m a lv W L) (hn : n = W.length) (ho : o.ok n = true) (hL : L.length ≤ 1000000000) :
    Calls Try.prog 13 #[ptr m, .agg #[i64 o.kind, i64 o.w, i64 o.a, i64 o.b]] w fun e w' => e = .returned (.tuple #[i64 (opX o W), .bool (opP o W)]) ∧ MemPost B w m a lv (opW o W) (L ++ opL o W) w' := by
  obtain ⟨ok, ow, oa, ob⟩ := o
  simp only [MOp.ok, Bool.and_eq_true, decide_eq_true_eq] at ho
  obtain ⟨⟨⟨h1, h2⟩, h3⟩, h4⟩ := ho
  subst hn
  have HK : Hid (Keep0 w (w.alloc (.cells #[i64 ok, i64 ow, i64 oa, i64 ob] 28))) := hid ((Keep.refl _ _).alloc _)
  have HM := hid (hm.same HK.out)
  clear hm
  obtain rfl | rfl | rfl | rfl | rfl : ok = 1 ∨ ok = 2 ∨ ok = 3 ∨ ok = 4 ∨ ok = 5 := by omega
  · go_enter Try.func13, Try.ntmps13
    go_wp2_with fail
    refine (mem_Load ow HM.out h3 h4 hL).mono ?_
    rintro e w1 ⟨rfl, hp⟩
    have HP := hid (hp.before HK.out)
    clear hp
    go_wp2_with fail
    go_ret2
    exact ⟨rfl, HP.out⟩
  · go_enter Try.func13, Try.ntmps13
    go_wp2_with fail
    refine (mem_Add ow oa HM.out h3 h4 hL).mono ?_
    rintro e w1 ⟨rfl, hp⟩
    have HP := hid (hp.before HK.out)
    clear hp
    go_wp2_with fail
    go_ret2
    exact ⟨rfl, HP.out⟩
  · go_enter Try.func13, Try.ntmps13
    go_wp2_with fail
    refine (mem_Cas ow oa ob HM.out h3 h4 hL).mono ?_
    rintro e w1 ⟨rfl, hp⟩
    have HP := hid (hp.before HK.out)
    clear hp
    go_wp2_with fail
    go_ret2
    exact ⟨rfl, HP.out⟩
  · go_enter Try.func13, Try.ntmps13
    go_wp2_with fail
    refine (mem_Store ow oa HM.out h3 h4 hL).mono ?_
    rintro e w1 ⟨rfl, hp⟩
    have HP := hid (hp.before HK.out)
    clear hp
    go_wp2_with fail
    go_ret2
    exact ⟨rfl, HP.out⟩
  · go_enter Try.func13, Try.ntmps13
    go_wp2_with fail
    refine (mem_Poke ow oa HM.out h3 h4).mono ?_
    rintro e w1 ⟨rfl, hm, hk⟩
    have HP := hid (MemPost.before (L' := L ++ []) ⟨lv, by rw [List.append_nil]; exact hm, hk.mono (fun _ h => Or.inr (Or.inl h)), fun _ h => Or.inl h⟩ HK.out)
    clear hm hk
    go_wp2_with fail
    go_ret2
    exact ⟨rfl, HP.out⟩
end

section
variable {B : Nat} {w : World} {m : Nat} {A : Option Addr} {c : Nat} {lv : Value} {W : List Int} {L : List Acc}
end
end Go.Proofs.Ytdjfeapncpcmgaa
