/- Contracts and plain laws for UsageWay, part 11: what the walk of the law leans on. -/
import Derived.ProofKit
import Derived.OpenShut
import Derived.ShutString
import Derived.ChangeOld
import Derived.SizedLaws
import Derived.Deep.RegionLaw
import Derived.Test.YthaceckccobgeaaGreatZUsageWay1
import Derived.Test.YthaceckccobgeaaGreatZUsageWay4
import Derived.Test.YthaceckccobgeaaGreatZUsageWay5
import Derived.Test.YthaceckccobgeaaGreatZUsageWay6
import Derived.Test.YthaceckccobgeaaGreatZUsageWay10
namespace Go.Proofs.YthaceckccobgeaaGreat
open Go.ChangeShapes Go.WideShapes Go.ChangeAt Go.RowKit
set_option linter.unusedVariables false
set_option linter.unusedSimpArgs false
set_option maxRecDepth 100000
theorem Keep.below {w w' : World} (h : Keep0 w w') : Below w.heap.size w w' := ⟨h.os, h.tape, h.output, h.size, fun k hk => h.block k hk (fun x => x)⟩
section
variable {H : Type} {enc : TypeId × Value → H} {w : World} {base : Nat}
theorem ints_cells {fuel : Nat} {cs : List Value} {x : DataW H × List MemPlace} (h : DataW.trod enc Tryz.prog w base (fun _ => true) true fuel 22 cs = some x) :
 ∃ A l c, cs = [.slice A (List.length l) c] ∧ l.length ≤ 9223372036854775807 ∧ IntsAt w A l := by
 rcases open_ints Tryz.underlying22 Tryz.underlying3 (by kernel_rfl) h with ⟨hcs, _⟩ | ⟨a, len, cap, zs, hcs, _, hl, hm, hz, _, hcell, _⟩
 · exact ⟨none, [], 0, hcs, by simp, Or.inl rfl⟩
 · simp only [if_true] at hz
   have hlen : (zs.take len).length = len := by rw [List.length_take]; omega
   refine ⟨some a, zs.take len, cap, by rw [hlen]; exact hcs, by rw [hlen]; unfold maxLen at hm; omega, ?_⟩
   by_cases h0 : len = 0
   · left; subst h0; rfl
   · right
     have hc0 := hcell 0 (by omega)
     have hsp : a.spot = none := by
      unfold World.cell? at hc0
      cases hs : a.spot with
      | none => rfl
      | some x => simp [Addr.add, hs] at hc0; split at hc0 <;> simp_all
     obtain ⟨b, o, sp⟩ := a
     simp only at hsp
     subst hsp
     refine ⟨b, o, rfl, fun i hi => ?_⟩
     rw [hlen] at hi
     have hc := hcell i (by omega)
     have e : (⟨b, o, none⟩ : Addr).add i = ⟨b, o + i, none⟩ := by unfold Addr.add; split <;> simp_all
     rw [e] at hc
     rw [hc]
     simp [rd, List.getD, List.getElem?_take, hi]
theorem conf_cells {fuel : Nat} {cs : List Value} {x : DataW H × List MemPlace} (h : DataW.trod enc Tryz.prog w base (fun _ => true) true fuel 24 cs = some x) :
 ∃ (t s g l r k : Int) (P L : List Int) (PA : Option Addr) (pc : Nat) (LA : Option Addr) (lc : Nat), cs = [i64 t, i64 s, i64 g, i64 l, i64 r, i64 k, .slice PA P.length pc, .slice LA L.length lc] ∧
  IntsAt w PA P ∧ IntsAt w LA L ∧ P.length ≤ 9223372036854775807 ∧ L.length ≤ 9223372036854775807 := by
 obtain ⟨xs, n, _, _, hlen, hxl, hf⟩ := DataW.trod_struct Tryz.underlying24 h
 have hlen8 : cs.length = 8 := hlen.trans (by kernel_rfl)
 obtain ⟨c0, c1, c2, c3, c4, c5, c6, c7, rfl⟩ : ∃ c0 c1 c2 c3 c4 c5 c6 c7, cs = [c0, c1, c2, c3, c4, c5, c6, c7] := by
  match cs, hlen8 with
  | [c0, c1, c2, c3, c4, c5, c6, c7], _ => exact ⟨_, _, _, _, _, _, _, _, rfl⟩
 obtain ⟨y0, y1, y2, y3, y4, y5, y6, y7, rfl⟩ : ∃ y0 y1 y2 y3 y4 y5 y6 y7, xs = [y0, y1, y2, y3, y4, y5, y6, y7] := by
  match xs, hxl with
  | [c0, c1, c2, c3, c4, c5, c6, c7], _ => exact ⟨_, _, _, _, _, _, _, _, rfl⟩
 have hci : Tryz.prog.cellsOf 3 = 1 := by kernel_rfl
 have hcs : Tryz.prog.cellsOf 22 = 1 := by kernel_rfl
 have f0 := hf 0 _ rfl
 have f1 := hf 1 _ rfl
 have f2 := hf 2 _ rfl
 have f3 := hf 3 _ rfl
 have f4 := hf 4 _ rfl
 have f5 := hf 5 _ rfl
 have f6 := hf 6 _ rfl
 have f7 := hf 7 _ rfl
 simp [hci, hcs] at f0 f1 f2 f3 f4 f5 f6 f7
 obtain ⟨t, e0, _, _⟩ := DataW.trod_int Tryz.underlying3 f0
 obtain ⟨s, e1, _, _⟩ := DataW.trod_int Tryz.underlying3 f1
 obtain ⟨g, e2, _, _⟩ := DataW.trod_int Tryz.underlying3 f2
 obtain ⟨l, e3, _, _⟩ := DataW.trod_int Tryz.underlying3 f3
 obtain ⟨r, e4, _, _⟩ := DataW.trod_int Tryz.underlying3 f4
 obtain ⟨k, e5, _, _⟩ := DataW.trod_int Tryz.underlying3 f5
 obtain ⟨PA, P, pc, e6, hpb, hp⟩ := ints_cells f6
 obtain ⟨LA, L, lc, e7, hlb, hl⟩ := ints_cells f7
 simp only [List.cons.injEq, and_true] at e0 e1 e2 e3 e4 e5 e6 e7
 subst e0 e1 e2 e3 e4 e5 e6 e7
 exact ⟨t, s, g, l, r, k, P, L, PA, pc, LA, lc, rfl, hp, hl, hpb, hlb⟩
end
end Go.Proofs.YthaceckccobgeaaGreat

namespace Go.Proofs.YthaceckccobgeaaGreat
open Go.RowKit
set_option linter.unusedVariables false
set_option linter.unusedSimpArgs false
set_option maxRecDepth 100000
theorem take_pad (W : List Int) (n i : Nat) (hn : n = W.length) (h : i < n) : (W.take i ++ List.replicate (n - i) 0).set i (rd W i) = W.take (i + 1) ++ List.replicate (n - (i + 1)) 0 := by
 subst hn
 have e : W[i]? = some (rd W i) := by simp [rd, h]
 rw [List.set_append_right _ _ (by rw [List.length_take]; omega), List.length_take, Nat.min_eq_left (by omega), Nat.sub_self, List.take_add_one, e, show W.length - i = (W.length - (i + 1)) + 1 from by omega, List.replicate_succ]
 simp
set_option maxHeartbeats 2000000 in
theorem law8_Laid (B : Nat) (w : World) (A : Option Addr) (c : Nat) (W : List Int) (hW : IntsAt w A W) (h1 : W.length ≤ 10000) (hB : B ≤ w.heap.size) :
 Calls Tryz.prog 24 #[.slice A W.length c] w fun e w' => ∃ m a lv, e = .returned (ptr m) ∧ MemAt B w' m a lv W [] ∧ Keep0 w w' ∧ w.heap.size ≤ m ∧ w.heap.size ≤ a := by
 have HW := hid hW
 clear hW
 go_enter Tryz.func24, Tryz.ntmps24
 go_wp2_with fail
 refine (mem_New B W.length _ hB (by omega) (by omega)).mono ?_
 rintro e w1 ⟨m, a, lv, rfl, hm, hk, hzm, hza⟩
 rw [Int.toNat_natCast] at hm
 have HM1 := hid hm
 have HK1 : Hid (Keep0 w w1) := hid hk
 clear hm hk
 go_wp2_with fail
 go_loopw [4] (fun v wr => ∃ i : Nat, i ≤ W.length ∧ v = .int .i64 i ∧ MemAt B wr m a lv (W.take i ++ List.replicate (W.length - i) 0) [] ∧ Keep0 w wr) (fun v _ => W.length - (intOf v).toNat)
 case atStart => exact ⟨0, Nat.zero_le _, rfl, by simpa using HM1.out, HK1.out⟩
 case round =>
  obtain ⟨i, hi, rfl, hm, hk⟩ := hrel
  clear HM1 HK1
  have HM := hid hm
  have HK := hid hk
  clear hm hk
  by_cases hlt : i < W.length
  · obtain ⟨b, o, rfl, hc⟩ := (HW.out.keep HK.out).cell (by omega)
    have c1 := hc i hlt
    have z1 := World.block_lt_of_cell? _ _ c1
    simp only at z1
    have hx := take_pad W W.length i rfl hlt
    have HX := hid hx
    clear hc hx
    go_wp2_with fail
    refine (mem_Poke i (rd W i) HM.out (by omega) (by simp; omega)).mono ?_
    rintro e w2 ⟨rfl, hm, hk⟩
    rw [Int.toNat_natCast, HX.out] at hm
    have HM2 := hid hm
    have HK2 : Hid (Keep0 w w2) := hid (keep_far11 HK.out hk (fun k e => by have e' : k = a := e; omega))
    clear hm hk c1
    go_wp2_with fail
    go_roundw
    case rel => exact ⟨i + 1, by omega, by go_num, HM2.out, HK2.out⟩
    case measure => simp [intOf]; omega
  · obtain rfl : i = W.length := by omega
    have hm := HM.out
    rw [List.take_of_length_le (Nat.le_refl _), Nat.sub_self] at hm
    simp only [List.replicate_zero, List.append_nil] at hm
    have HM2 := hid hm
    clear hm
    go_wp2_with fail
    go_ret
    exact ⟨m, a, lv, rfl, HM2.out, HK.out, hzm, hza⟩
end Go.Proofs.YthaceckccobgeaaGreat

namespace Go.Proofs.YthaceckccobgeaaGreat
open Go.RowKit
set_option linter.unusedVariables false
set_option linter.unusedSimpArgs false
set_option maxRecDepth 100000
theorem ints_blk {w : World} {g : Nat} {W : List Int} (h : Blk w g 3 (ints W)) : Ints w g W := by
 unfold Blk at h
 exact ⟨_, h, by simp [Go.Proofs.YthaceckccobgeaaGreat.ints], by rw [List.toList_toArray]; exact List.take_of_length_le (by simp [Go.Proofs.YthaceckccobgeaaGreat.ints])⟩
def intsO (b : Nat) (W : List Int) : Ass where
 At R w := Ints w b W ∧ ∀ k, R k ↔ k = b
 st := by rintro R S w w' ⟨h, e⟩ hk hS; exact ⟨hk.ints h (hS b ((e b).2 rfl)), e⟩
 lt := by rintro R w ⟨h, e⟩ k hk; rw [(e k).1 hk]; exact h.lt
section
variable {w0 w : World} {l : List Ass}
theorem St.words {B m : Nat} {W : List Int} {L : List Acc} (h : St w0 (refO B m W L :: l) w) (h0 : 0 < W.length) :
 ∃ wb c lv, Blk w m 42 [.slice (some ⟨wb, 0, none⟩) W.length c, lv] ∧ (W.length ≤ c ∧ c ≤ 9223372036854775807) ∧ St w0 (intsO wb W :: l) w := by
 obtain ⟨h1, U, ⟨R, V, ⟨A, c, lv, hm, e⟩, hv, hd, hU⟩, hz⟩ := h
 have hcap : W.length ≤ c ∧ c ≤ 9223372036854775807 := by
  rcases hm.words.2 with ⟨e1, e2⟩ | ⟨g, cap, cur, e1, _, _, h4, h5, _⟩
  · omega
  · cases e1
    refine ⟨h4, ?_⟩
    unfold maxLen at h5
    omega
 obtain ⟨g, rfl, hi, hBg⟩ := ints_own hm.words h0 rfl
 have hg : R g := (e g).2 (Or.inr (Or.inl rfl))
 refine ⟨g, c, lv, hm.mem, hcap, h1, fun k => k = g ∨ V k, ⟨fun k => k = g, V, ⟨hi, fun _ => Iff.rfl⟩, hv, fun k hk => by subst hk; exact hd k hg, fun _ => Iff.rfl⟩, ?_⟩
 rintro k (rfl | hk)
 · exact hz k ((hU k).2 (Or.inl hg))
 · exact hz k ((hU k).2 (Or.inr hk))
theorem intsO_cells {b : Nat} {W : List Int} {R : Nat → Prop} (h : (intsO b W).At R w) : ∀ i, i < W.length → w.cell? ⟨b, 0 + i, none⟩ = some (i64 (rd W i)) := fun i hi => by rw [Nat.zero_add]; exact h.1.cell i hi
theorem St.cells {b : Nat} {W : List Int} (h : St w0 (intsO b W :: l) w) : ∀ i, i < W.length → w.cell? ⟨b, 0 + i, none⟩ = some (i64 (rd W i)) := by
 obtain ⟨R, hR, _⟩ := h.get
 exact intsO_cells hR
end
theorem base_Nw (w : World) : Calls Tryz.prog 37 #[] w fun e w' => ∃ x : Nat × Nat, e = .returned (.agg #[i64 2, i64 2, i64 4, i64 4, i64 2, i64 3, .slice (some ⟨x.1, 0, none⟩) 4 4, .slice (some ⟨x.2, 0, none⟩) 4 4]) ∧
 Nw (Ass.star (intsO x.1 [-1, 0, 1, 0]) (intsO x.2 [20, 10, 8, 5])) w w' := by
 go_enter Tryz.func37, Tryz.ntmps37
 go_wp2
 have e : ∀ w', w' = ((w.alloc (.cells #[i64 2, i64 2, i64 4, i64 4, i64 2, i64 3, .slice (some ⟨w.heap.size + 1, 0, none⟩) 4 4, .slice (some ⟨w.heap.size + 1 + 1, 0, none⟩) 4 4] 24)).alloc (.cells #[i64 (-1), i64 0, i64 1, i64 0] 3)).alloc (.cells #[i64 20, i64 10, i64 8, i64 5] 3) →
  Nw (Ass.star (intsO (w.heap.size + 1) [-1, 0, 1, 0]) (intsO (w.heap.size + 1 + 1) [20, 10, 8, 5])) w w' := by
  rintro w' rfl
  refine ⟨fun k => k = w.heap.size + 1 ∨ k = w.heap.size + 1 + 1, ⟨_, _, ⟨ints_blk ((Blk.made (by simp) rfl).alloc _), fun _ => Iff.rfl⟩, ⟨ints_blk (Blk.made (by simp) rfl), fun _ => Iff.rfl⟩, fun k h1 h2 => by omega, fun _ => Iff.rfl⟩, (((Keep.refl _ _).alloc _).alloc _).alloc _, fun k h => by omega⟩
 exact bodyPost_ret (v := .agg #[i64 2, i64 2, i64 4, i64 4, i64 2, i64 3, .slice (some ⟨w.heap.size + 1, 0, none⟩) 4 4, .slice (some ⟨w.heap.size + 1 + 1, 0, none⟩) 4 4]) (by simp [results, Tryz.results37, go_sem]) rfl ⟨(w.heap.size + 1, w.heap.size + 1 + 1), rfl, e _ rfl⟩
theorem refO_Fresh (w : World) (lb lo : Nat) (t s g l r k : Int) (PA : Option Addr) (pn pc ln lc : Nat) (L : List Int)
 (hs0 : 1 ≤ s) (hs1 : s ≤ 8) (hk0 : 0 ≤ k) (hk1 : k ≤ 100) (hp : pn ≤ 100) (hpl : pn ≤ ln) (hL : ∀ i, i < pn → w.cell? ⟨lb, lo + i, none⟩ = some (i64 (rd L i))) (hlb : lb < w.heap.size) :
 Calls Tryz.prog 38 #[.agg #[i64 t, i64 s, i64 g, i64 l, i64 r, i64 k, .slice PA pn pc, .slice (some ⟨lb, lo, none⟩) ln lc]] w fun e w' => ∃ x : Nat × Nat, e = .returned (ptr x.1) ∧ Nw (refO x.2 x.1 (freshW s k pn L) []) w w' := by
 refine (ref_Fresh w.heap.size w lb lo t s g l r k PA pn pc ln lc L (Nat.le_refl _) hs0 hs1 hk0 hk1 hp hpl hL hlb).mono ?_
 rintro e w' ⟨m, rfl, ⟨A, c, hm⟩, hk, hz⟩
 refine ⟨(m, w.heap.size), rfl, RF m A (.slice none 0 0), ⟨A, c, _, hm, fun _ => Iff.rfl⟩, hk, ?_⟩
 rintro k (rfl | h | h)
 · exact hz
 · exact (hm.words.lt k ((own_any _ _ _ _ _).trans h)).1
 · exact (hm.log.lt k h).1
theorem memO_Laid (w : World) (b c : Nat) (W : List Int) (hW : ∀ i, i < W.length → w.cell? ⟨b, 0 + i, none⟩ = some (i64 (rd W i))) (h1 : W.length ≤ 10000) :
 Calls Tryz.prog 24 #[.slice (some ⟨b, 0, none⟩) W.length c] w fun e w' => ∃ x : Nat × Nat, e = .returned (ptr x.1) ∧ Nw (memO x.2 x.1 W []) w w' := by
 refine (law8_Laid w.heap.size w (some ⟨b, 0, none⟩) c W (Or.inr ⟨b, 0, rfl, hW⟩) h1 (Nat.le_refl _)).mono ?_
 rintro e w' ⟨m, a, lv, rfl, hm, hk, hzm, hza⟩
 refine ⟨(m, w.heap.size), rfl, MF m a lv, ⟨a, lv, hm, fun _ => Iff.rfl⟩, hk, ?_⟩
 rintro k (rfl | rfl | h)
 · exact hzm
 · exact hza
 · exact (hm.log.lt k h).1
end Go.Proofs.YthaceckccobgeaaGreat
