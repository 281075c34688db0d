/- MemPlay: a machine that adds so often is stepped so often, or as often as may be. -/
import Derived.Test.YtjpkepceenghcaaOpsRow
import Derived.Test.YtjpkepceenghcaaGhost
namespace Go.Proofs.Ytjpkepceenghcaa
open Go.RowKit
set_option linter.unusedVariables false
set_option linter.unusedSimpArgs false

def okAt (i : Int) (p : Pk) : Bool := decide (p.at_ = i) && decide (0 ≤ p.w) && decide (p.w < 2)
def pokeW (i : Int) (l : List Pk) (W : List Int) : List Int := l.foldl (fun W p => if p.at_ = i ∧ 0 ≤ p.w ∧ p.w < ((2 : Nat) : Int) then W.set p.w.toNat p.x else W) W
def incW (W : List Int) : List Int := W.set 1 (wrap64 (rd W 1 + 1))
def wS (l : List Pk) : Nat → List Int
  | 0 => [0, 0]
  | i + 1 => incW (pokeW i l (wS l i))
theorem pokeW_length (i : Int) (l : List Pk) (W : List Int) : (pokeW i l W).length = W.length := by
  unfold pokeW
  induction l generalizing W with
  | nil => rfl
  | cons p l ih => rw [List.foldl_cons, ih]; split <;> simp
theorem wS_length (l : List Pk) (i : Nat) : (wS l i).length = 2 := by
  induction i with
  | zero => rfl
  | succ i ih => rw [wS, incW, List.length_set, pokeW_length, ih]
theorem pokeAll_W (i : Int) (l : List Pk) (t : AS) : pokeAll addPk 2 i l t = ⟨pokeW i l t.W, t.L, t.many, t.last⟩ := by
  unfold pokeAll pokeW
  induction l generalizing t with
  | nil => rfl
  | cons p l ih => rw [List.foldl_cons, List.foldl_cons, ih]; split <;> rfl
theorem pokeW_snoc (i : Int) (l : List Pk) (j : Nat) (h : j < l.length) (W : List Int) : pokeW i (l.take (j + 1)) W = if l[j].at_ = i ∧ 0 ≤ l[j].w ∧ l[j].w < ((2 : Nat) : Int) then (pokeW i (l.take j) W).set l[j].w.toNat l[j].x else pokeW i (l.take j) W := by
  unfold pokeW
  rw [List.take_succ_eq_append_getElem h, List.foldl_append]
  rfl
theorem play_law (l : List Pk) (many most : Nat) : ∀ (k n : Nat) (t : AS), t.W = wS l n → t.L.length = n → t.many = (many : Int) - n → n < many → n + k = most →
    (playF (addStp 1) addPk 2 l k n t).1.W = wS l (min many most) ∧ (playF (addStp 1) addPk 2 l k n t).1.L.length = min many most ∧ (playF (addStp 1) addPk 2 l k n t).2.1 = min many most ∧ (playF (addStp 1) addPk 2 l k n t).2.2 = decide (many ≤ most) := by
  intro k
  induction k with
  | zero =>
    intro n t hW hL hm hn hk
    have e : min many most = n := by omega
    rw [e]
    exact ⟨hW, hL, rfl, by show false = _; simp; omega⟩
  | succ k ih =>
    intro n t hW hL hm hn hk
    have hp : 0 < t.many := by omega
    have hst : addStp 1 (pokeAll addPk 2 n l t) = (⟨incW (pokeW n l t.W), t.L ++ [⟨2, (1 : Nat), 1, wrap64 (rd (pokeW n l t.W) 1 + 1), false⟩], t.many - 1, wrap64 (rd (pokeW n l t.W) 1 + 1)⟩, t.many - 1 == 0) := by
      rw [pokeAll_W]
      simp [addStp, hp, incW]
    have hstep : playF (addStp 1) addPk 2 l (k + 1) n t = if (addStp 1 (pokeAll addPk 2 n l t)).2 then ((addStp 1 (pokeAll addPk 2 n l t)).1, n + 1, true) else playF (addStp 1) addPk 2 l k (n + 1) (addStp 1 (pokeAll addPk 2 n l t)).1 := rfl
    rw [hstep, hst]
    by_cases hz : t.many - 1 = 0
    · have e : min many most = n + 1 := by omega
      simp only [hz, beq_self_eq_true, if_true]
      rw [e]
      exact ⟨by rw [wS, hW], by simp [hL], rfl, by simp; omega⟩
    · have hb : (t.many - 1 == 0) = false := by simpa using hz
      simp only [hb, Bool.false_eq_true, if_false]
      exact ih (n + 1) _ (by rw [wS, hW]) (by simp [hL]) (by simp only; omega) (by omega) (by omega)
theorem pksAt.keep {w w' : World} {A : Option Addr} {l : List Pk} (h : pksAt w A l) (hk : Keep0 w w') : pksAt w' A l := by
  rcases h with h | ⟨b, o, e1, h⟩
  · exact Or.inl h
  · refine Or.inr ⟨b, o, e1, fun i hi => ?_⟩
    obtain ⟨h0, h1, h2⟩ := h i hi
    have hb := World.block_lt_of_cell? _ _ h0
    simp only at hb
    exact ⟨(cell_old hk hb (fun x => x) _).trans h0, (cell_old hk hb (fun x => x) _).trans h1, (cell_old hk hb (fun x => x) _).trans h2⟩
theorem pksAt.at_ {w : World} {A : Option Addr} {l : List Pk} (h : pksAt w A l) : ∃ b o, (0 < l.length → A = some ⟨b, o, none⟩ ∧ b < w.heap.size) ∧ ∀ w', Keep0 w w' → ∀ i (hi : i < l.length), w'.cell? ⟨b, o + i * 3, none⟩ = some (i64 l[i].at_) ∧ w'.cell? ⟨b, o + i * 3 + 1, none⟩ = some (i64 l[i].w) ∧ w'.cell? ⟨b, o + i * 3 + 2, none⟩ = some (i64 l[i].x) := by
  rcases h with rfl | ⟨b, o, e1, h⟩
  · exact ⟨0, 0, fun h => by simp at h, fun _ _ i hi => by simp at hi⟩
  · refine ⟨b, o, fun h0 => ⟨e1, World.block_lt_of_cell? _ _ (h 0 h0).1⟩, fun w' hk i hi => ?_⟩
    obtain ⟨h0, h1, h2⟩ := h i hi
    have hb := World.block_lt_of_cell? _ _ h0
    simp only at hb
    exact ⟨(cell_old hk hb (fun x => x) _).trans h0, (cell_old hk hb (fun x => x) _).trans h1, (cell_old hk hb (fun x => x) _).trans h2⟩

set_option maxHeartbeats 4000000 in
set_option maxRecDepth 100000 in
theorem memPlay_walk {w : World} (many : Int) (hx : (Lit.int .u8 many).wf = true) (most : Int) (hy : (Lit.int .u8 most).wf = true) {v : Value} (hc : ∃ l, pksIn w v l) : Calls Try.prog 12 #[.int .u8 many, .int .u8 most, v] w (Ret (.bool true) w) := by
  obtain ⟨l, A, c, rfl, hl63, hl⟩ := hc
  have hx := bounds_u8 hx
  have hy := bounds_u8 hy
  have HL := hid hl
  clear hl
  go_enter Try.func12, Try.ntmps12
  go_wp2_with fail
  refine (law3_head _).mono ?_
  rintro e w1 ⟨rfl, hk⟩
  have HK1 : Hid (Keep0 w w1) := hid (Keep0.step (by repeat (with_reducible first | exact Keep.refl _ _ | apply Keep.alloc | apply Keep.drewN | apply Keep.drew)) hk)
  clear hk
  by_cases h50 : 50 < l.length
  · go_wp2
    go_ret
    exact ⟨rfl, HK1.out⟩
  · by_cases hm0 : many = 0
    · have hl50 : l.length ≤ 50 := by omega
      subst hm0
      go_wp2
      go_ret
      exact ⟨rfl, HK1.out⟩
    have hl50 : l.length ≤ 50 := by omega
    have hmb : (many == 0) = false := by simpa using hm0
    go_wp2_with fail
    refine (mem_New w.heap.size 2 _ HK1.out.size (by omega) (by omega)).mono ?_
    rintro e w2 ⟨m, a, lv2, rfl, hm, hk, hzm, hza⟩
    have HM2 := hid (show MemAt w.heap.size w2 m a lv2 [0, 0] [] from hm)
    have HK2 : Hid (Keep0 w w2) := hid (Keep0.step HK1.out hk)
    clear hm hk HK1
    obtain ⟨many, rfl⟩ := Int.eq_ofNat_of_zero_le hx.1
    obtain ⟨most, rfl⟩ := Int.eq_ofNat_of_zero_le hy.1
    obtain ⟨b, o, hA0, hcl⟩ := HL.out.at_
    have HCL := hid hcl
    have HA0 := hid hA0
    clear hcl hA0
    go_wp2_with fail
    have HX3 : Hid (Blk (w2.alloc (.cells #[i64 1, i64 many, i64 0] 62)) w2.heap.size 62 [i64 (1 : Nat), i64 many, i64 0]) := hid (Blk.made rfl rfl)
    have HK3 : Hid (Keep0 w (w2.alloc (.cells #[i64 1, i64 many, i64 0] 62))) := hid (HK2.out.alloc _)
    have HM3 := hid (HM2.out.same ((Keep.refl _ w2).alloc (.cells #[i64 1, i64 many, i64 0] 62)))
    have hxw : w.heap.size ≤ w2.heap.size := HK2.out.size
    generalize w2.alloc (.cells #[i64 1, i64 many, i64 0] 62) = w3 at *
    have hp := play_adder (B := w.heap.size) (w := w3) (m := m) (a := a) (x := w2.heap.size) (lv := lv2) 1 ⟨[0, 0], [], many, 0⟩ l A b o c most HM3.out HX3.out (by simp) (by simp) (by simp only; omega) (by simp) (by omega) (by omega) (fun h0 => by
      obtain ⟨e, hb⟩ := HA0.out h0
      have := HM3.out.bm
      have := HM3.out.ba
      exact ⟨e, Nat.lt_of_lt_of_le hb HK3.out.size, by omega, by omega, by omega, fun e => by have := (HM3.out.log.lt b e).1; omega⟩) (HCL.out _ HK3.out)
    have hpl := play_law l many most most 0 ⟨[0, 0], [], many, 0⟩ rfl rfl (by simp) (by omega) (by omega)
    rw [show (AS.mk [0, 0] [] many 0).W.length = 2 from rfl] at hp
    generalize playF (addStp 1) addPk 2 l most 0 ⟨[0, 0], [], many, 0⟩ = pf at *
    obtain ⟨pt, pn, pb⟩ := pf
    obtain ⟨hp1, hp2, hp3, hp4⟩ := hpl
    simp only at hp hp1 hp2 hp3 hp4
    subst hp3 hp4
    refine hp.mono ?_
    rintro e w4 ⟨rfl, ⟨n4, lv4, hm4, _⟩, hk4⟩
    have HK4 : Hid (Keep0 w w4) := hid (keep_far HK3.out hk4 (by
      rintro k ((rfl | rfl | rfl | h) | h)
      · exact HM3.out.bm
      · exact HM3.out.ba
      · exact hxw
      · exact (HM3.out.log.lt k h).1
      · exact Nat.le_trans HK3.out.size h))
    rw [hp1] at hm4
    have HM4 := hid hm4
    clear hp hm4 hk4 HM3 HX3 HM2
    go_wp2_with fail
    · have hs : min many most = most := by omega
      have HV : Hid (Blk (w4.alloc (.cells #[i64 0, i64 0] 3)) w4.heap.size 3 (ints (wS l 0))) := hid (Blk.made rfl rfl)
      have HM5 := hid (HM4.out.same ((Keep.refl _ w4).alloc (.cells #[i64 0, i64 0] 3)))
      have HK5 : Hid (Keep0 w (w4.alloc (.cells #[i64 0, i64 0] 3))) := hid (HK4.out.alloc _)
      have hw4 : w4.heap.size < (w4.alloc (.cells #[i64 0, i64 0] 3)).heap.size := by simp
      have hmw : ∀ k, MF m a lv4 k → k ≠ w4.heap.size := fun k h => by have := MemAt.lt HM4.out k h; omega
      have hww := HK4.out.size
      rw [hs] at HM5 hp2 ⊢
      clear HM4
      generalize w4.alloc (.cells #[i64 0, i64 0] 3) = w5 at *
      go_loopw [14] (fun v wr => ∃ i : Nat, i ≤ most ∧ v = .int .i64 i ∧ Blk wr w4.heap.size 3 (ints (wS l i)) ∧ Keep (fun k => k = w4.heap.size) w5 wr) (fun v _ => most - (intOf v).toNat)
      case atStart => exact ⟨0, Nat.zero_le _, rfl, HV.out, Keep.refl _ _⟩
      case round =>
        obtain ⟨i, hi, rfl, hv, hk⟩ := hrel
        clear HV
        have HV := hid hv
        have HKR := hid hk
        clear hv hk
        by_cases hlt : i < most
        · go_wp2_with fail
          go_loopw [15] (fun v wz => ∃ j : Nat, j ≤ l.length ∧ v = .int .i64 j ∧ Blk wz w4.heap.size 3 (ints (pokeW i (l.take j) (wS l i))) ∧ Keep (fun k => k = w4.heap.size) w5 wz) (fun v _ => l.length - (intOf v).toNat)
          case atStart => exact ⟨0, Nat.zero_le _, rfl, HV.out, HKR.out⟩
          case round =>
            obtain ⟨j, hj, rfl, hv, hk⟩ := hrel
            clear HV HKR
            have HV := hid hv
            have HKR := hid hk
            have HKW : Hid (Keep0 w wr) := hid (keep_far HK5.out hk (fun k e => by have e' : k = w4.heap.size := e; omega))
            have hvl := hv.lt
            by_cases hjl : j < l.length
            · obtain ⟨rfl, hbw⟩ := HA0.out (by omega)
              obtain ⟨a1, a2, a3⟩ := HCL.out _ HKW.out j hjl
              have hbz := Nat.lt_of_lt_of_le hbw HKW.out.size
              have hbn : b ≠ w4.heap.size := by omega
              have hnext := pokeW_snoc i l j hjl (wS l i)
              have hlen : (pokeW i (l.take j) (wS l i)).length = 2 := by rw [pokeW_length, wS_length]
              generalize l[j].at_ = pa at *
              generalize l[j].w = pw at *
              generalize l[j].x = px at *
              have HN := hid hnext
              have HLEN := hid hlen
              clear hnext hv hk hlen
              generalize pokeW i (l.take j) (wS l i) = V at *
              by_cases hA : pa = (i : Int)
              · by_cases hB : 0 ≤ pw
                · by_cases hC : pw < 2
                  · obtain ⟨q, rfl⟩ := Int.eq_ofNat_of_zero_le hB
                    have hq : q < 2 := by omega
                    have c1 := HV.out.cell q
                    rw [ints_get V q (by rw [HLEN.out]; exact hq)] at c1
                    have f1 := HV.out.frozen q
                    have hres := HN.out
                    rw [if_pos ⟨hA, hB, hC⟩, Int.toNat_natCast] at hres
                    have HRES := hid hres
                    have g1 : (pa == (i : Int)) = true := by simpa using hA
                    clear hres HN hA
                    go_wp2_with fail
                    go_region
                    go_wp2_with fail
                    go_roundw
                    case rel => exact ⟨j + 1, by omega, by go_num, by rw [HRES.out]; exact (HV.out.drew.set q (i64 px)).cast (ints_set _ _ _), HKR.out.drew.set _ _ (fun _ => rfl)⟩
                    case measure => simp [intOf]; omega
                  · have hres := HN.out
                    rw [if_neg (fun h => hC h.2.2)] at hres
                    have HRES := hid hres
                    have g1 : (pa == (i : Int)) = true := by simpa using hA
                    have g2 : decide (pw < 2) = false := by simpa using hC
                    clear hres HN hA
                    go_wp2_with fail
                    go_roundw
                    case rel => exact ⟨j + 1, by omega, by go_num, by rw [HRES.out]; exact HV.out, HKR.out⟩
                    case measure => simp [intOf]; omega
                · have hres := HN.out
                  rw [if_neg (fun h => hB h.2.1)] at hres
                  have HRES := hid hres
                  have g1 : (pa == (i : Int)) = true := by simpa using hA
                  have g2 : decide (0 ≤ pw) = false := by simpa using hB
                  clear hres HN hA
                  go_wp2_with fail
                  go_roundw
                  case rel => exact ⟨j + 1, by omega, by go_num, by rw [HRES.out]; exact HV.out, HKR.out⟩
                  case measure => simp [intOf]; omega
              · have hres := HN.out
                rw [if_neg (fun h => hA h.1)] at hres
                have HRES := hid hres
                have g1 : (pa == (i : Int)) = false := by simpa using hA
                clear hres HN hA
                go_wp2_with fail
                go_roundw
                case rel => exact ⟨j + 1, by omega, by go_num, by rw [HRES.out]; exact HV.out, HKR.out⟩
                case measure => simp [intOf]; omega
            · have hv2 := hv
              rw [List.take_of_length_le (by omega)] at hv2
              have hlen : (pokeW i l (wS l i)).length = 2 := by rw [pokeW_length, wS_length]
              have c1 := hv2.cell 1
              rw [ints_get _ 1 (by rw [hlen]; omega)] at c1
              have f1 := hv2.frozen 1
              have HV2 := hid hv2
              have hres : wS l (i + 1) = incW (pokeW i l (wS l i)) := rfl
              have HRES := hid hres
              clear hv hk hv2 hlen hres
              generalize pokeW i l (wS l i) = V at *
              go_wp2_with fail
              go_roundw
              case rel => exact ⟨i + 1, by omega, by go_num, by rw [HRES.out]; exact (HV2.out.set 1 (i64 (wrap64 (rd V 1 + 1)))).cast (ints_set _ _ _), HKR.out.set _ _ (fun _ => rfl)⟩
              case measure => simp [intOf]; omega
        · obtain rfl : i = most := by omega
          have HM6 := hid (HM5.out.keep HKR.out (fun k h e => hmw k h e))
          have HKW : Hid (Keep0 w wr) := hid (keep_far HK5.out HKR.out (fun k e => by have e' : k = w4.heap.size := e; omega))
          have HIV := hid (show IntsAt wr (some ⟨w4.heap.size, 0, none⟩) (wS l i) from Or.inr ⟨_, 0, rfl, fun j hj => by rw [Nat.zero_add, HV.out.cell j, ints_get _ _ hj]⟩)
          have HLEN := hid (wS_length l i)
          clear HM5 HK5 HKR HV
          go_wp2_with fail
          refine (mem_Words HM6.out (by rw [HLEN.out]; omega)).mono ?_
          rintro e w7 ⟨g7, c7, rfl, hi7, hk, _⟩
          have HI7 := hid hi7
          have HIV7 := hid (HIV.out.keep hk)
          have HM7 := hid (HM6.out.same hk)
          have HK7 : Hid (Keep0 w w7) := hid (Keep0.step HKW.out hk)
          rw [HLEN.out]
          clear hi7 hk HIV HM6 HKW
          go_wp2_with fail
          have hsi := same_ints _ _ (wS l i) c7 2 _ HI7.out.at_ HIV7.out (by rw [HLEN.out]; omega)
          rw [HLEN.out] at hsi
          refine hsi.mono ?_
          rintro e w8 ⟨rfl, hk⟩
          have HM8 := hid (HM7.out.same hk)
          have HK8 : Hid (Keep0 w w8) := hid (Keep0.step HK7.out hk)
          clear hk hsi HM7 HK7
          go_wp2_with fail
          refine (mem_Log HM8.out (by rw [hp2]; omega)).mono ?_
          rintro e w9 ⟨A9, c9, rfl, _, hk⟩
          have HK9 : Hid (Keep0 w w9) := hid (Keep0.step HK8.out hk)
          rw [hp2]
          clear hk
          go_wp2_with fail
          go_ret
          exact ⟨rfl, HK9.out⟩
    · have hs : min many most = many := by omega
      have HV : Hid (Blk (w4.alloc (.cells #[i64 0, i64 0] 3)) w4.heap.size 3 (ints (wS l 0))) := hid (Blk.made rfl rfl)
      have HM5 := hid (HM4.out.same ((Keep.refl _ w4).alloc (.cells #[i64 0, i64 0] 3)))
      have HK5 : Hid (Keep0 w (w4.alloc (.cells #[i64 0, i64 0] 3))) := hid (HK4.out.alloc _)
      have hw4 : w4.heap.size < (w4.alloc (.cells #[i64 0, i64 0] 3)).heap.size := by simp
      have hmw : ∀ k, MF m a lv4 k → k ≠ w4.heap.size := fun k h => by have := MemAt.lt HM4.out k h; omega
      have hww := HK4.out.size
      rw [hs] at HM5 hp2 ⊢
      clear HM4
      generalize w4.alloc (.cells #[i64 0, i64 0] 3) = w5 at *
      go_loopw [14] (fun v wr => ∃ i : Nat, i ≤ many ∧ v = .int .i64 i ∧ Blk wr w4.heap.size 3 (ints (wS l i)) ∧ Keep (fun k => k = w4.heap.size) w5 wr) (fun v _ => many - (intOf v).toNat)
      case atStart => exact ⟨0, Nat.zero_le _, rfl, HV.out, Keep.refl _ _⟩
      case round =>
        obtain ⟨i, hi, rfl, hv, hk⟩ := hrel
        clear HV
        have HV := hid hv
        have HKR := hid hk
        clear hv hk
        by_cases hlt : i < many
        · go_wp2_with fail
          go_loopw [15] (fun v wz => ∃ j : Nat, j ≤ l.length ∧ v = .int .i64 j ∧ Blk wz w4.heap.size 3 (ints (pokeW i (l.take j) (wS l i))) ∧ Keep (fun k => k = w4.heap.size) w5 wz) (fun v _ => l.length - (intOf v).toNat)
          case atStart => exact ⟨0, Nat.zero_le _, rfl, HV.out, HKR.out⟩
          case round =>
            obtain ⟨j, hj, rfl, hv, hk⟩ := hrel
            clear HV HKR
            have HV := hid hv
            have HKR := hid hk
            have HKW : Hid (Keep0 w wr) := hid (keep_far HK5.out hk (fun k e => by have e' : k = w4.heap.size := e; omega))
            have hvl := hv.lt
            by_cases hjl : j < l.length
            · obtain ⟨rfl, hbw⟩ := HA0.out (by omega)
              obtain ⟨a1, a2, a3⟩ := HCL.out _ HKW.out j hjl
              have hbz := Nat.lt_of_lt_of_le hbw HKW.out.size
              have hbn : b ≠ w4.heap.size := by omega
              have hnext := pokeW_snoc i l j hjl (wS l i)
              have hlen : (pokeW i (l.take j) (wS l i)).length = 2 := by rw [pokeW_length, wS_length]
              generalize l[j].at_ = pa at *
              generalize l[j].w = pw at *
              generalize l[j].x = px at *
              have HN := hid hnext
              have HLEN := hid hlen
              clear hnext hv hk hlen
              generalize pokeW i (l.take j) (wS l i) = V at *
              by_cases hA : pa = (i : Int)
              · by_cases hB : 0 ≤ pw
                · by_cases hC : pw < 2
                  · obtain ⟨q, rfl⟩ := Int.eq_ofNat_of_zero_le hB
                    have hq : q < 2 := by omega
                    have c1 := HV.out.cell q
                    rw [ints_get V q (by rw [HLEN.out]; exact hq)] at c1
                    have f1 := HV.out.frozen q
                    have hres := HN.out
                    rw [if_pos ⟨hA, hB, hC⟩, Int.toNat_natCast] at hres
                    have HRES := hid hres
                    have g1 : (pa == (i : Int)) = true := by simpa using hA
                    clear hres HN hA
                    go_wp2_with fail
                    go_region
                    go_wp2_with fail
                    go_roundw
                    case rel => exact ⟨j + 1, by omega, by go_num, by rw [HRES.out]; exact (HV.out.drew.set q (i64 px)).cast (ints_set _ _ _), HKR.out.drew.set _ _ (fun _ => rfl)⟩
                    case measure => simp [intOf]; omega
                  · have hres := HN.out
                    rw [if_neg (fun h => hC h.2.2)] at hres
                    have HRES := hid hres
                    have g1 : (pa == (i : Int)) = true := by simpa using hA
                    have g2 : decide (pw < 2) = false := by simpa using hC
                    clear hres HN hA
                    go_wp2_with fail
                    go_roundw
                    case rel => exact ⟨j + 1, by omega, by go_num, by rw [HRES.out]; exact HV.out, HKR.out⟩
                    case measure => simp [intOf]; omega
                · have hres := HN.out
                  rw [if_neg (fun h => hB h.2.1)] at hres
                  have HRES := hid hres
                  have g1 : (pa == (i : Int)) = true := by simpa using hA
                  have g2 : decide (0 ≤ pw) = false := by simpa using hB
                  clear hres HN hA
                  go_wp2_with fail
                  go_roundw
                  case rel => exact ⟨j + 1, by omega, by go_num, by rw [HRES.out]; exact HV.out, HKR.out⟩
                  case measure => simp [intOf]; omega
              · have hres := HN.out
                rw [if_neg (fun h => hA h.1)] at hres
                have HRES := hid hres
                have g1 : (pa == (i : Int)) = false := by simpa using hA
                clear hres HN hA
                go_wp2_with fail
                go_roundw
                case rel => exact ⟨j + 1, by omega, by go_num, by rw [HRES.out]; exact HV.out, HKR.out⟩
                case measure => simp [intOf]; omega
            · have hv2 := hv
              rw [List.take_of_length_le (by omega)] at hv2
              have hlen : (pokeW i l (wS l i)).length = 2 := by rw [pokeW_length, wS_length]
              have c1 := hv2.cell 1
              rw [ints_get _ 1 (by rw [hlen]; omega)] at c1
              have f1 := hv2.frozen 1
              have HV2 := hid hv2
              have hres : wS l (i + 1) = incW (pokeW i l (wS l i)) := rfl
              have HRES := hid hres
              clear hv hk hv2 hlen hres
              generalize pokeW i l (wS l i) = V at *
              go_wp2_with fail
              go_roundw
              case rel => exact ⟨i + 1, by omega, by go_num, by rw [HRES.out]; exact (HV2.out.set 1 (i64 (wrap64 (rd V 1 + 1)))).cast (ints_set _ _ _), HKR.out.set _ _ (fun _ => rfl)⟩
              case measure => simp [intOf]; omega
        · obtain rfl : i = many := by omega
          have HM6 := hid (HM5.out.keep HKR.out (fun k h e => hmw k h e))
          have HKW : Hid (Keep0 w wr) := hid (keep_far HK5.out HKR.out (fun k e => by have e' : k = w4.heap.size := e; omega))
          have HIV := hid (show IntsAt wr (some ⟨w4.heap.size, 0, none⟩) (wS l i) from Or.inr ⟨_, 0, rfl, fun j hj => by rw [Nat.zero_add, HV.out.cell j, ints_get _ _ hj]⟩)
          have HLEN := hid (wS_length l i)
          clear HM5 HK5 HKR HV
          go_wp2_with fail
          refine (mem_Words HM6.out (by rw [HLEN.out]; omega)).mono ?_
          rintro e w7 ⟨g7, c7, rfl, hi7, hk, _⟩
          have HI7 := hid hi7
          have HIV7 := hid (HIV.out.keep hk)
          have HM7 := hid (HM6.out.same hk)
          have HK7 : Hid (Keep0 w w7) := hid (Keep0.step HKW.out hk)
          rw [HLEN.out]
          clear hi7 hk HIV HM6 HKW
          go_wp2_with fail
          have hsi := same_ints _ _ (wS l i) c7 2 _ HI7.out.at_ HIV7.out (by rw [HLEN.out]; omega)
          rw [HLEN.out] at hsi
          refine hsi.mono ?_
          rintro e w8 ⟨rfl, hk⟩
          have HM8 := hid (HM7.out.same hk)
          have HK8 : Hid (Keep0 w w8) := hid (Keep0.step HK7.out hk)
          clear hk hsi HM7 HK7
          go_wp2_with fail
          refine (mem_Log HM8.out (by rw [hp2]; omega)).mono ?_
          rintro e w9 ⟨A9, c9, rfl, _, hk⟩
          have HK9 : Hid (Keep0 w w9) := hid (Keep0.step HK8.out hk)
          rw [hp2]
          clear hk
          go_wp2_with fail
          go_ret
          exact ⟨rfl, HK9.out⟩
end Go.Proofs.Ytjpkepceenghcaa
