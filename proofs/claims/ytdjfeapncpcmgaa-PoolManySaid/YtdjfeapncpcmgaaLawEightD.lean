/- breadlinelaw08.own, pool.Left. -/
import Derived.Test.YtdjfeapncpcmgaaLawEight
import Derived.Test.YtdjfeapncpcmgaaLog
import Derived.Test.YtdjfeapncpcmgaaWordsC
namespace Go.Proofs.Ytdjfeapncpcmgaa
open Go.RowKit
set_option linter.unusedVariables false
set_option linter.unusedSimpArgs false
set_option maxRecDepth 100000

def smallAcc (x : Acc) : Prop := (-4398046511104 ≤ x.a ∧ x.a ≤ 4398046511104) ∧ (-4398046511104 ≤ x.b ∧ x.b ≤ 4398046511104)
theorem ownD_small {x : Acc} (h : smallAcc x) : -8796093022208 ≤ ownD x ∧ ownD x ≤ 8796093022208 := by
  unfold ownD smallAcc at *
  split
  · omega
  · split <;> omega
theorem ownS_take (L : List Acc) (i : Nat) (h : i < L.length) : ownS (L.take (i + 1)) = ownS (L.take i) + ownD L[i] := by
  rw [List.take_succ_eq_append_getElem h, ownS_snoc]
theorem ownS_bound (L : List Acc) (h : ∀ x ∈ L, smallAcc x) (i : Nat) (hi : i ≤ L.length) : -(8796093022208 * (i : Int)) ≤ ownS (L.take i) ∧ ownS (L.take i) ≤ 8796093022208 * (i : Int) := by
  induction i with
  | zero => simp [ownS]
  | succ i ih =>
    have h1 := ih (by omega)
    have h2 := ownD_small (h L[i] (List.getElem_mem (by omega)))
    rw [ownS_take L i (by omega)]
    omega

set_option maxHeartbeats 2000000 in
theorem law8_own (w : World) (A : Option Addr) (c : Nat) (L : List Acc) (hA : AccsAt w A L) (hl : L.length ≤ 1000) (hs : ∀ x ∈ L, smallAcc x) :
    Calls Try.prog 37 #[.slice A L.length c] w (Ret (i64 (ownS L)) w) := by
  have HA := hid hA
  have HS := hid hs
  clear hA hs
  go_enter Try.func37, Try.ntmps37
  go_wp2_with fail
  go_loopw [3, 4] (fun v3 v4 wr => ∃ i : Nat, i ≤ L.length ∧ v4 = .int .i64 i ∧ v3 = .int .i64 (ownS (L.take i)) ∧ Keep0 w wr) (fun _ v _ => L.length - (intOf v).toNat)
  case atStart => exact ⟨0, Nat.zero_le _, rfl, rfl, Keep.refl _ _⟩
  case round =>
    obtain ⟨i, hi, rfl, rfl, hk⟩ := hrel
    have HK := hid hk
    clear hk
    by_cases hlt : i < L.length
    · obtain ⟨b, o, rfl, hc⟩ := (HA.out.keep HK.out).cell (by omega)
      have hbd := ownS_bound L HS.out i (by omega)
      have hsm := HS.out L[i] (List.getElem_mem hlt)
      have HN := hid (ownS_take L i hlt)
      obtain ⟨xk, xw, xa, xb, xo, hx⟩ : ∃ xk xw xa xb xo, L[i] = ⟨xk, xw, xa, xb, xo⟩ := ⟨_, _, _, _, _, rfl⟩
      have p0 : wr.cell? ⟨b, o + i * 5, none⟩ = some (i64 xk) := by have h := hc (i * 5 + 0) (i64 xk) (by rw [accs_get L i hlt 0 (by omega), hx]; rfl); simpa [Nat.add_assoc] using h
      have p2 : wr.cell? ⟨b, o + i * 5 + 2, none⟩ = some (i64 xa) := by have h := hc (i * 5 + 2) (i64 xa) (by rw [accs_get L i hlt 2 (by omega), hx]; rfl); simpa [Nat.add_assoc] using h
      have p3 : wr.cell? ⟨b, o + i * 5 + 3, none⟩ = some (i64 xb) := by have h := hc (i * 5 + 3) (i64 xb) (by rw [accs_get L i hlt 3 (by omega), hx]; rfl); simpa [Nat.add_assoc] using h
      have p4 : wr.cell? ⟨b, o + i * 5 + 4, none⟩ = some (.bool xo) := by have h := hc (i * 5 + 4) (.bool xo) (by rw [accs_get L i hlt 4 (by omega), hx]; rfl); simpa [Nat.add_assoc] using h
      have z := World.block_lt_of_cell? _ _ p0
      simp only at z
      rw [hx] at hsm HN
      unfold smallAcc at hsm
      simp only at hsm
      clear hc hx
      generalize ownS (L.take i) = N at *
      by_cases h2 : xk = 2
      · have hd : ownD ⟨xk, xw, xa, xb, xo⟩ = xa := by simp [ownD, h2]
        have HD := hid hd
        clear hd
        go_wp2_with fail
        go_roundw
        case rel => exact ⟨i + 1, by omega, by go_num, by rw [HN.out, HD.out], HK.out⟩
        case measure => simp [intOf]; omega
      · by_cases h3 : xk = 3
        · have g2 : (xk == 2) = false := by simpa using h2
          cases xo
          · have hd : ownD ⟨xk, xw, xa, xb, false⟩ = 0 := by simp [ownD, h2]
            have HD := hid hd
            clear hd
            go_wp2_with fail
            go_roundw
            case rel => exact ⟨i + 1, by omega, by go_num, by rw [HN.out, HD.out, Int.add_zero], HK.out⟩
            case measure => simp [intOf]; omega
          · have hd : ownD ⟨xk, xw, xa, xb, true⟩ = xb - xa := by simp [ownD, h2, h3]
            have hy : IntKind.i64.wrap (N + xb) = N + xb := IntWalk.i64_in _ (by omega)
            have hy2 : IntKind.i64.wrap (N + xb - xa) = N + xb - xa := IntWalk.i64_in _ (by omega)
            have HD := hid hd
            clear hd
            go_wp2_with fail
            go_region
            go_wp2_with fail
            go_roundw
            case rel => exact ⟨i + 1, by omega, by go_num, by rw [HN.out, HD.out]; congr 1; omega, by repeat (with_reducible first | exact Keep.refl _ _ | exact HK.out | apply Keep.alloc | apply Keep.drewN | apply Keep.drew)⟩
            case measure => simp [intOf]; omega
        · have g2 : (xk == 2) = false := by simpa using h2
          have g3 : (xk == 3) = false := by simpa using h3
          have hd : ownD ⟨xk, xw, xa, xb, xo⟩ = 0 := by simp [ownD, h2, h3]
          have HD := hid hd
          clear hd
          go_wp2_with fail
          go_roundw
          case rel => exact ⟨i + 1, by omega, by go_num, by rw [HN.out, HD.out, Int.add_zero], HK.out⟩
          case measure => simp [intOf]; omega
    · have hf : L.take i = L := List.take_of_length_le (by omega)
      have HF := hid hf
      clear hf
      go_wp2_with fail
      go_ret
      exact ⟨by rw [HF.out]; rfl, HK.out⟩

/-- what is left: what is available, and the leases behind it -/
def leftN (W : List Int) (av : Nat) : Nat → Int
  | 0 => rd W av
  | u + 1 => leftN W av u + rd W (av + 1 + u)
theorem leftN_bound (W : List Int) (av : Nat) (Y : Int) (h : ∀ i, -Y ≤ rd W i ∧ rd W i ≤ Y) (u : Nat) : -(Y * (u + 1)) ≤ leftN W av u ∧ leftN W av u ≤ Y * (u + 1) := by
  induction u with
  | zero => simpa [leftN] using h av
  | succ u ih =>
    have := h (av + 1 + u)
    have e : Y * ((u + 1 : Nat) + 1 : Int) = Y * (u + 1) + Y := by rw [Int.mul_add Y ((u + 1 : Nat) : Int) 1, Int.mul_one]; simp
    rw [leftN]
    omega

section
variable {B : Nat} {w : World} {m a : Nat} {lv : Value} {W : List Int} {L0 : List Acc}
set_option maxHeartbeats 2000000 in
theorem pool_Left (t g l r k : Int) (s : Nat) (PA : Option Addr) (pn pc : Nat) (LA : Option Addr) (ln lc : Nat) (v : Int) (av : Nat) (hm : MemAt B w m a lv W L0) (hW : W.length ≤ 10000) (hs0 : 1 ≤ s) (hs1 : s ≤ 8) (h0 : 0 ≤ v) (h1 : v ≤ 1000)
    (hav : (av : Int) = v * (6 + 2 * s) + 1) (hin : av + 1 + s ≤ W.length) (hb : ∀ i, -4398046511104 ≤ rd W i ∧ rd W i ≤ 4398046511104) :
    Calls Try.prog 28 #[ptr m, .agg #[i64 t, i64 s, i64 g, i64 l, i64 r, i64 k, .slice PA pn pc, .slice LA ln lc], i64 v] w (Ret (i64 (leftN W av s)) w) := by
  have HM := hid hm
  have HBD := hid hb
  have HAV := hid hav
  have HCB : Hid (Blk (w.alloc (.cells #[i64 t, i64 s, i64 g, i64 l, i64 r, i64 k, .slice PA pn pc, .slice LA ln lc] 40)) w.heap.size 40 [i64 t, i64 s, i64 g, i64 l, i64 r, i64 k, .slice PA pn pc, .slice LA ln lc]) := hid (Blk.made rfl rfl)
  have HK0 : Hid (Keep0 w (w.alloc (.cells #[i64 t, i64 s, i64 g, i64 l, i64 r, i64 k, .slice PA pn pc, .slice LA ln lc] 40))) := hid ((Keep.refl _ _).alloc _)
  clear hm hb hav
  go_enter Try.func28, Try.ntmps28
  go_wp2_with fail
  refine (mem_WordsC (HM.out.same HK0.out) (by omega)).mono ?_
  rintro e w1 ⟨gb, gc, rfl, hi, hk, _, hgc⟩
  have HI := hid hi
  have HB1 := hid (hk.blk HCB.out (fun h => h))
  have HK1 : Hid (Keep0 w w1) := hid (Keep0.step HK0.out hk)
  have qb := HB1.out.k8
  clear hi hk HCB HK0
  go_wp2_with fail
  refine Calls.mono (show Calls Try.prog 35 #[.agg #[i64 t, i64 s, i64 g, i64 l, i64 r, i64 k, .slice PA pn pc, .slice LA ln lc], i64 v] w1 (Ret (i64 av) w1) from by have h := plan_Avail t s g l r k PA pn pc LA ln lc v w1 (by omega) (by omega) h0 h1; rw [← HAV.out] at h; exact h) ?_
  rintro e w2 ⟨rfl, hk⟩
  have HI2 := hid (hk.ints HI.out (fun h => h))
  have HB2 := hid (hk.blk HB1.out (fun h => h))
  have HK2 : Hid (Keep0 w w2) := hid (Keep0.step HK1.out hk)
  have qb2 := HB2.out.k8
  have c1 := HI2.out.cell av (by omega)
  have z1 := HI2.out.lt
  clear hk HI HB1 HK1 qb
  go_wp2_with fail
  refine Calls.mono (show Calls Try.prog 36 #[.agg #[i64 t, i64 s, i64 g, i64 l, i64 r, i64 k, .slice PA pn pc, .slice LA ln lc], i64 v, i64 0] w2 (Ret (i64 ((av + 1 : Nat) : Int)) w2) from by have h := plan_Lease t s g l r k PA pn pc LA ln lc v 0 w2 (by omega) (by omega) h0 h1 (by omega) (by omega); rw [show v * (6 + 2 * (s : Int)) + 2 + 0 = ((av + 1 : Nat) : Int) from by have := HAV.out; omega] at h; exact h) ?_
  rintro e w3 ⟨rfl, hk⟩
  have HI3 := hid (hk.ints HI2.out (fun h => h))
  have HB3 := hid (hk.blk HB2.out (fun h => h))
  have HK3 : Hid (Keep0 w w3) := hid (Keep0.step HK2.out hk)
  have qb3 := HB3.out.k8
  have z3 := HI3.out.lt
  clear hk HI2 HB2 HK2 qb2 c1 z1
  have e1 : (0 : Int) ≤ (av : Int) + 1 := by omega
  have e2 : (av : Int) + 1 ≤ (av : Int) + 1 + (s : Int) := by omega
  have e3 : (av : Int) + 1 + (s : Int) ≤ gc := by omega
  have e4 : ¬ gc = av + 1 := by omega
  have e5 : (0 : Int) ≤ (av : Int) + 1 + (s : Int) := by omega
  have e6 : ((av : Int) + 1 + (s : Int)).toNat = av + 1 + s := by omega
  have e7 : av + 1 + s - (av + 1) = s := by omega
  go_wp2_with fail
  go_loopw [8, 31] (fun v8 v31 wr => ∃ i : Nat, i ≤ s ∧ v31 = .int .i64 i ∧ v8 = .int .i64 (leftN W av i) ∧ Keep0 w3 wr) (fun _ v _ => s - (intOf v).toNat)
  case atStart => exact ⟨0, Nat.zero_le _, rfl, rfl, by repeat (with_reducible first | exact Keep.refl _ _ | apply Keep.alloc | apply Keep.drewN | apply Keep.drew)⟩
  case round =>
    obtain ⟨i, hi, rfl, rfl, hk⟩ := hrel
    have HK := hid hk
    have HIR := hid (hk.ints HI3.out (fun h => h))
    clear hk
    by_cases hlt : i < s
    · have c1 := HIR.out.cell (av + 1 + i) (by omega)
      have z1 := HIR.out.lt
      have b1 := leftN_bound W av 4398046511104 HBD.out i
      have b2 := HBD.out (av + 1 + i)
      have HN : Hid (leftN W av (i + 1) = leftN W av i + rd W (av + 1 + i)) := hid rfl
      generalize leftN W av i = N at *
      generalize rd W (av + 1 + i) = y at *
      have hy : IntKind.i64.wrap (N + y) = N + y := IntWalk.i64_in _ (by omega)
      go_wp2_with fail
      go_roundw
      case rel => exact ⟨i + 1, by omega, by go_num, by rw [HN.out], HK.out⟩
      case measure => simp [intOf]; omega
    · obtain rfl : i = s := by omega
      go_wp2_with fail
      go_ret
      exact ⟨rfl, HK3.out.trans HK.out (fun _ _ h => h)⟩
end
end Go.Proofs.Ytdjfeapncpcmgaa
