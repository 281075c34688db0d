/- AddTells: what a machine does, and what its counter's words are then, whatever others do, and any counter's sum, are the document's. -/
import Derived.Test.YtchlmaphaeoplaaHeadSix
import Derived.Test.YtchlmaphaeoplaaLawSixE
import Derived.Test.YtchlmaphaeoplaaRowSix
import Derived.Test.YtchlmaphaeoplaaRegionF
import Derived.Test.YtchlmaphaeoplaaRefSixS
import Derived.Test.YtchlmaphaeoplaaLog
namespace Go.Proofs.Ytchlmaphaeoplaa
open Go.RowKit
set_option linter.unusedVariables false
set_option linter.unusedSimpArgs false
set_option maxRecDepth 100000
theorem mem_less {B B' : Nat} {w : World} {m a : Nat} {lv : Value} {W : List Int} {L : List Acc} (h : MemAt B w m a lv W L) (hb : B' ≤ B) : MemAt B' w m a lv W L :=
  ⟨Nat.le_trans hb h.base, Nat.le_trans hb h.bm, Nat.le_trans hb h.ba, h.mem, h.words, own_base h.log hb⟩
theorem aPoke_L (len : Nat) (n : Int) (l : List Pk) (t : AS) : (pokeAll aPk len n l t).L = t.L := by
  unfold pokeAll
  induction l generalizing t with
  | nil => rfl
  | cons p l ih =>
    rw [List.foldl_cons, ih]
    split <;> rfl
theorem aNext_logle {b s : Nat} {g d : Int} (t : AS) : (aNext b s g d t).L.length ≤ t.L.length + 1 := by
  by_cases h : t.st < 9
  · rw [aNext_log t h]; omega
  · have e : aNext b s g d t = t := by unfold aNext; split <;> first | rfl | omega
    rw [e]; omega
theorem aPlay_log {b s : Nat} {g d : Int} (len : Nat) (l : List Pk) (k n : Nat) (t : AS) : (playF (aStp b s g d) aPk len l k n t).1.L.length ≤ t.L.length + k := by
  induction k generalizing n t with
  | zero => simp [playF]
  | succ k ih =>
    have h1 : (aStp b s g d (pokeAll aPk len n l t)).1.L.length ≤ t.L.length + 1 := by
      have h := aNext_logle (b := b) (s := s) (g := g) (d := d) (pokeAll aPk len n l t)
      rw [aPoke_L] at h
      exact h
    simp only [playF]
    split
    · simp only; omega
    · have h2 := ih (n + 1) (aStp b s g d (pokeAll aPk len n l t)).1
      omega
/-- the region that compares (13: the log, 22: the words) -/
def WTl (w0 : World) (LL : List Acc) (VV : List Int) (S : Nat → Bool) (gh : Nat → Value) (wx : World) : Prop :=
  Keep0 w0 wx ∧ (S 13 = true → ∃ A c, gh 13 = .slice A LL.length c ∧ AccsAt wx A LL) ∧ (S 22 = true → ∃ A c, gh 22 = .slice A VV.length c ∧ IntsAt wx A VV)
section
variable {w0 wx w2 : World} {LL : List Acc} {VV : List Int} {S : Nat → Bool} {gh : Nat → Value}
theorem WTl.fixed {i : Nat} (h : WTl w0 LL VV S gh wx) (h1 : i ≠ 13 ∧ i ≠ 22) : WTl w0 LL VV (upd S i) gh wx := by
  unfold WTl
  rw [show upd S i 13 = S 13 from by simp [upd, Ne.symm h1.1], show upd S i 22 = S 22 from by simp [upd, Ne.symm h1.2]]
  exact h
theorem WTl.keep (h : WTl w0 LL VV S gh wx) (hk : Keep0 wx w2) : WTl w0 LL VV S gh w2 := by
  obtain ⟨h1, h2, h3⟩ := h
  refine ⟨h1.trans hk (fun _ _ h => h), fun e => ?_, fun e => ?_⟩
  · obtain ⟨A, c, e, h⟩ := h2 e; exact ⟨A, c, e, h.keep hk⟩
  · obtain ⟨A, c, e, h⟩ := h3 e; exact ⟨A, c, e, h.keep hk⟩
theorem WTl.log (h : WTl w0 LL VV S gh wx) (hk : Keep0 wx w2) {A : Option Addr} {c : Nat} (ha : AccsAt w2 A LL) : WTl w0 LL VV (upd S 13) (updv gh 13 (.slice A LL.length c)) w2 := by
  obtain ⟨h1, h2, h3⟩ := h.keep hk
  unfold WTl
  rw [show upd S 13 22 = S 22 from by simp [upd], updv_same, updv_ne (show (22 : Nat) ≠ 13 by decide)]
  exact ⟨h1, fun _ => ⟨A, c, rfl, ha⟩, h3⟩
theorem WTl.words (h : WTl w0 LL VV S gh wx) (hk : Keep0 wx w2) {A : Option Addr} {c : Nat} (ha : IntsAt w2 A VV) : WTl w0 LL VV (upd S 22) (updv gh 22 (.slice A VV.length c)) w2 := by
  obtain ⟨h1, h2, h3⟩ := h.keep hk
  unfold WTl
  rw [show upd S 22 13 = S 13 from by simp [upd], updv_same, updv_ne (show (13 : Nat) ≠ 22 by decide)]
  exact ⟨h1, h2, fun _ => ⟨A, c, rfl, ha⟩⟩
end
theorem refLog6 {B : Nat} {w : World} {m : Nat} {A : Option Addr} {c : Nat} {lv : Value} {W : List Int} {L : List Acc} (h : RefAt B w m A c lv W L) : ∃ LA LC, lv = .slice LA L.length LC ∧ AccsAt w LA L := by
  have hl := h.log
  rcases hl.2 with ⟨e, h0⟩ | ⟨g, cap, cur, e, _, _, _⟩
  · exact ⟨none, 0, by rw [e, h0], Or.inl (List.eq_nil_of_length_eq_zero h0)⟩
  · exact ⟨some ⟨g, 0, none⟩, cap, e, accs_of_row (e ▸ hl) rfl⟩
set_option maxHeartbeats 3000000 in
theorem addTells_walk {w : World} {v0 v3 : Value} (hc : CounterIn w v0) (d : Int) (hd : (Lit.int .i32 d).wf = true) (th : Int) (hth : (Lit.int .u16 th).wf = true) (hK0 : ∃ l, pksIn w v3 l) (most : Int) (hmo : (Lit.int .u8 most).wf = true) : Calls Try.prog 6 #[v0, .int .i32 d, .int .u16 th, v3, .int .u8 most] w (Ret (.bool true) w) := by
  have hd := bounds_i32 hd
  have hth := bounds_u16 hth
  have hmo := bounds_u8 hmo
  obtain ⟨K, KA, kc, rfl, _, hK⟩ := hK0
  have HKK := hid hK
  clear hK
  obtain ⟨ba, sr, ga, gl, li, VA, V, vc, UA, U, uc, rfl, h0, h1, h2, h3, h4, hV, hv1, hvb, hU, hu1, hub⟩ := hc
  obtain ⟨b, hb⟩ : ∃ b : Nat, (b : Int) = ba % 8 := ⟨(ba % 8).toNat, by omega⟩
  have hz1 := sz4_bd sr
  have hz2 := sz4_bd li
  obtain ⟨s, hs⟩ : ∃ s : Nat, (s : Int) = sz4 sr := ⟨(sz4 sr).toNat, by omega⟩
  obtain ⟨g, hg⟩ : ∃ g : Nat, (g : Int) = ga % 40 + 1 := ⟨(ga % 40 + 1).toNat, by omega⟩
  obtain ⟨l, hl⟩ : ∃ l : Nat, (l : Int) = min (sz4 li) (sz4 sr) := ⟨(min (sz4 li) (sz4 sr)).toNat, by omega⟩
  have HP2 := hid (show p2 (s : Int) ∧ p2 (l : Int) ∧ (l : Int) ≤ s from ⟨by rw [hs]; exact sz4_p2 _, by rw [hl]; exact (p2_min (sz4_p2 _) (sz4_p2 _)).1, by rw [hl, hs]; exact (p2_min (sz4_p2 _) (sz4_p2 _)).2⟩)
  have hbb : b ≤ 7 := by omega
  have hss : 1 ≤ s ∧ s ≤ 8 := by omega
  have hgg : 1 ≤ g ∧ g ≤ 40 := by omega
  have hll : 1 ≤ l ∧ l ≤ 8 := by omega
  have HSZ := hid (fun w' => law6_Size ba sr ga gl li VA V.length vc UA U.length uc w' h0 h1 h2 h4)
  rw [← hl, ← hb, ← hs, ← hg] at HSZ
  have HWO := hid (fun (w' : World) (hk : Keep0 w w') hv hu => law6_Words ba sr ga gl li VA V vc UA U uc w' b s g l h0 h1 h2 h4 h3 (hV.keep hk) (hU.keep hk) hv hu hvb hub hb hs hg hl)
  have HPO := hid (fun (KA : Option Addr) (K : List Pk) (kc : Nat) (w' : World) hK hk => law6_Poked ba sr ga gl li VA V vc UA U uc KA K kc w' b s g l h0 h1 h2 h4 hb hs hg hl hK hk)
  have HK0 : Hid (Keep0 w (w.alloc (.cells #[.int .u8 ba, .int .u8 sr, .int .u16 ga, .int .i32 gl, .int .u8 li, .slice VA V.length vc, .slice UA U.length uc] 26))) := hid ((Keep.refl _ _).alloc _)
  clear hV hU hv1 hu1 hvb hub h0 h1 h2 h4 hb hs hg hl hz1 hz2
  go_enter Try.func6, Try.ntmps6
  go_wp2_with fail
  have HB : Hid (Blk (w.alloc (.cells #[.int .u8 ba, .int .u8 sr, .int .u16 ga, .int .i32 gl, .int .u8 li, .slice VA V.length vc, .slice UA U.length uc] 26)) w.heap.size 26 [.int .u8 ba, .int .u8 sr, .int .u16 ga, .int .i32 gl, .int .u8 li, .slice VA V.length vc, .slice UA U.length uc]) := hid (Blk.made rfl rfl)
  have qHB := HB.out.k7
  refine (law6_head _).mono ?_
  rintro e w1 ⟨rfl, hk⟩
  have HK1 : Hid (Keep0 w w1) := hid (Keep0.step (by repeat (with_reducible first | exact Keep.refl _ _ | exact HK0.out | apply Keep.alloc | apply Keep.drewN | apply Keep.drew)) hk)
  have THB := hk.blk (show Blk _ _ _ _ from by repeat (with_reducible first | exact HB.out | apply Blk.alloc | apply Blk.drewN | apply Blk.drew)) (fun h => h)
  clear hk qHB HB HK0
  have HB := hid THB
  clear THB
  have qHB := HB.out.k7
  by_cases hgd0 : 40 < K.length
  · go_wp2_with fail
    go_ret
    exact ⟨rfl, HK1.out⟩
  by_cases hgd1 : 20 < V.length
  · go_wp2_with fail
    go_ret
    exact ⟨rfl, HK1.out⟩
  by_cases hgd2 : 20 < U.length
  · go_wp2_with fail
    go_ret
    exact ⟨rfl, HK1.out⟩
  go_wp2_with fail
  refine (HSZ.out _).mono ?_
  rintro e w2 ⟨rfl, hk⟩
  have HK2 : Hid (Keep0 w w2) := hid (Keep0.step (by repeat (with_reducible first | exact Keep.refl _ _ | exact HK1.out | apply Keep.alloc | apply Keep.drewN | apply Keep.drew)) hk)
  have THB := hk.blk (show Blk _ _ _ _ from by repeat (with_reducible first | exact HB.out | apply Blk.alloc | apply Blk.drewN | apply Blk.drew)) (fun h => h)
  clear hk qHB HB HK1
  have HB := hid THB
  clear THB
  have qHB := HB.out.k7
  clear HSZ
  go_wp2_with fail
  refine (HWO.out _ (by repeat (with_reducible first | exact Keep.refl _ _ | exact HK2.out | apply Keep.alloc | apply Keep.drewN | apply Keep.drew)) (by omega) (by omega)).mono ?_
  rintro e w3 ⟨wg, rfl, hwg, hk, hwge⟩
  generalize hN : b + 4 + s + 3 = N at *
  have HWF := hid (wf6 b s g gl l V U hgg)
  generalize words6 b g (zero6 b s gl l) V U s = WW at *
  have HN := hid hN
  have hln : WW.length = N := HWF.out.ln.trans hN
  have hN1 : b + 4 + s ≤ N := by omega
  have hN2 : N ≤ 22 := by omega
  clear hN
  have HWB := hid hwg
  have HWG := hid (Blk.ints hwg)
  have hwz : w.heap.size ≤ wg := Nat.le_trans HK2.out.size (by simpa using hwge)
  have HK3 : Hid (Keep0 w w3) := hid (Keep0.step (by repeat (with_reducible first | exact Keep.refl _ _ | exact HK2.out | apply Keep.alloc | apply Keep.drewN | apply Keep.drew)) hk)
  have THB := hk.blk (show Blk _ _ _ _ from by repeat (with_reducible first | exact HB.out | apply Blk.alloc | apply Blk.drewN | apply Blk.drew)) (fun h => h)
  clear hk qHB HB HK2
  have HB := hid THB
  clear THB
  have qHB := HB.out.k7
  clear hwg HWO hwge
  go_wp2_with fail
  refine (HPO.out KA K kc _ (HKK.out.keep (show Keep0 w _ from by repeat (with_reducible first | exact Keep.refl _ _ | exact HK3.out | apply Keep.alloc | apply Keep.drewN | apply Keep.drew))) (by omega)).mono ?_
  rintro e w4 ⟨PA, pc, rfl, hpk, hk, hpb⟩
  have HK4 : Hid (Keep0 w w4) := hid (Keep0.step (by repeat (with_reducible first | exact Keep.refl _ _ | exact HK3.out | apply Keep.alloc | apply Keep.drewN | apply Keep.drew)) hk)
  have THB := hk.blk (show Blk _ _ _ _ from by repeat (with_reducible first | exact HB.out | apply Blk.alloc | apply Blk.drewN | apply Blk.drew)) (fun h => h)
  have THWG := hk.ints (show Ints _ _ _ from by repeat (with_reducible first | exact HWG.out | apply Ints.alloc | apply Ints.drewN | apply Ints.drew)) (fun h => h)
  have THWB := hk.blk (show Blk _ _ _ _ from by repeat (with_reducible first | exact HWB.out | apply Blk.alloc | apply Blk.drewN | apply Blk.drew)) (fun h => h)
  clear hk qHB HB HWG HWB HK3
  have HB := hid THB
  clear THB
  have qHB := HB.out.k7
  have HWG := hid THWG
  clear THWG
  have HWB := hid THWB
  clear THWB
  have HPK := hid hpk
  have HPB := hid hpb
  clear hpk hpb HPO HKK
  clear qHB HB
  have hgg2 : (1 : Int) ≤ g ∧ (g : Int) ≤ 2147483647 := by omega
  have HOK := hid (okPokes6 (b := b) (s := s) (g := g) (l := l) (K := K) hgg2 HP2.out.2)
  have hpl := poked6_length b s g l K
  generalize poked6 b s g l K = PK at *
  have hpl40 : PK.length ≤ 40 := by omega
  clear hpl hgg2
  have hpkz := fun (h : 0 < PK.length) => HPK.out.cell h
  have HPZ := hid (fun b o (e : PA = some ⟨b, o, none⟩) (h : 0 < PK.length) => (by
    obtain ⟨b', o', e', hc⟩ := hpkz h
    rw [e] at e'
    cases e'
    exact World.block_lt_of_cell? _ _ (hc 0 h).1 : b < w4.heap.size))
  clear hpkz HPB
  go_wp2_with fail
  have hwq := HWG.out.lt
  refine (law6_laid w4.heap.size _ wg _ N WW HWG.out hln.symm (by omega) (Nat.le_refl _)).mono ?_
  rintro e w5 ⟨m, a, lv, rfl, hm, hk, hzm, hza⟩
  have hKZ := HK4.out.size
  have hz45 := hk.size
  have HK5 : Hid (Keep0 w w5) := hid (Keep0.step (by repeat (with_reducible first | exact Keep.refl _ _ | exact HK4.out | apply Keep.alloc | apply Keep.drewN | apply Keep.drew)) hk)
  have THWG := hk.ints (show Ints _ _ _ from by repeat (with_reducible first | exact HWG.out | apply Ints.alloc | apply Ints.drewN | apply Ints.drew)) (fun h => h)
  have THWB := hk.blk (show Blk _ _ _ _ from by repeat (with_reducible first | exact HWB.out | apply Blk.alloc | apply Blk.drewN | apply Blk.drew)) (fun h => h)
  have THPK := pksAt.keep (show pksAt _ _ _ from HPK.out) (show Keep0 w4 _ from by repeat (with_reducible first | exact Keep0.step (Keep.refl _ _) hk | apply Keep.alloc | apply Keep.drew))
  clear hk HWG HWB HPK HK4
  have HWG := hid THWG
  clear THWG
  have HWB := hid THWB
  clear THWB
  have HPK := hid THPK
  clear THPK
  have HLOG := hid (fun c (e : lv.ownBlock = some c) => (hm.log.lt c e).1)
  have HM := hid (mem_less hm hKZ)
  clear hm
  go_wp2_with fail
  refine (law6_amount d _ hd).mono ?_
  rintro e w0 ⟨rfl, rfl⟩
  go_wp2_with fail
  have hdb := tmod_bd d 1048576 (by omega)
  generalize hdd : d.tmod 1048576 = dd at *
  have HDD := hid hdd
  clear hdd
  obtain ⟨tn, htn⟩ : ∃ n : Nat, (n : Int) = th % 1001 := ⟨(th % 1001).toNat, by omega⟩
  rw [← htn]
  have htm : th.tmod 1001 = (tn : Int) := by rw [Int.tmod_eq_emod_of_nonneg hth.1]; exact htn.symm
  have htn2 : tn ≤ 1000 := by omega
  have HTN := hid htn
  clear htn
  obtain ⟨x7, hx7⟩ : ∃ n : Nat, (n : Int) = dBegin (tn : Nat) := ⟨(dBegin (tn : Nat)).toNat, Int.toNat_of_nonneg (dBegin_bd _).1⟩
  have hbx7 : (x7 : Int) < 4294967296 := by rw [hx7]; exact (dBegin_bd _).2
  refine (add_New b s g (dd) tn _ (by omega) x7 hx7).mono ?_
  rintro e w6 ⟨x, rfl, hx, hk, hbx⟩
  have hzx : w.heap.size ≤ x := Nat.le_trans HK5.out.size hx
  have hlx := hx
  have HK6 : Hid (Keep0 w w6) := hid (Keep0.step (by repeat (with_reducible first | exact Keep.refl _ _ | exact HK5.out | apply Keep.alloc | apply Keep.drewN | apply Keep.drew)) hk)
  have THWG := hk.ints (show Ints _ _ _ from by repeat (with_reducible first | exact HWG.out | apply Ints.alloc | apply Ints.drewN | apply Ints.drew)) (fun h => h)
  have THWB := hk.blk (show Blk _ _ _ _ from by repeat (with_reducible first | exact HWB.out | apply Blk.alloc | apply Blk.drewN | apply Blk.drew)) (fun h => h)
  have THPK := pksAt.keep (show pksAt _ _ _ from HPK.out) (show Keep0 w5 _ from by repeat (with_reducible first | exact Keep0.step (Keep.refl _ _) hk | apply Keep.alloc | apply Keep.drew))
  have THM := MemAt.same (by repeat (with_reducible first | exact HM.out | apply MemAt.alloc | apply MemAt.drew)) hk
  clear hk HWG HWB HPK HM HK5
  have HWG := hid THWG
  clear THWG
  have HWB := hid THWB
  clear THWB
  have HPK := hid THPK
  clear THPK
  have HM := hid THM
  clear THM
  have HX7K := hid hx7
  clear hx hx7
  have HX := hid hbx
  clear hbx
  go_wp2_with fail
  have hmz := HM.out.mem.lt
  have haz := HM.out.words.lt
  have hxz := HX.out.lt
  have hwz2 := HWG.out.lt
  obtain ⟨w7, hw7⟩ : ∃ w', w' = w6.alloc (.cells #[.slice (some ⟨wg, 0, none⟩) N N, .slice none 0 0] 52) := ⟨_, rfl⟩
  rw [← hw7]
  obtain ⟨rm, hrm⟩ : ∃ rm, rm = w6.heap.size := ⟨_, rfl⟩
  have hk7 : Keep0 w6 w7 := by rw [hw7]; exact (Keep.refl _ _).alloc _
  have hs7 : w7.heap.size = rm + 1 := by rw [hw7, hrm]; simp
  have hbm : Blk w7 rm 52 [.slice (some ⟨wg, 0, none⟩) WW.length N, .slice none 0 0] := by rw [hw7, hrm, hln]; exact Blk.made rfl rfl
  have how : w7.ownsRow w.heap.size 3 1 (.slice (some ⟨wg, 0, none⟩) WW.length N) WW.length (ints WW) := by
    have h := own_full (hk7.blk HWB.out (fun h => h)) hwz (by omega)
    rw [hln] at h ⊢
    exact h
  have HR7 := hid (show RefAt w.heap.size w7 rm (some ⟨wg, 0, none⟩) N (.slice none 0 0) WW [] from ⟨by have := HK6.out.size; have := hk7.size; omega, by have := HK6.out.size; omega, hbm, how, by simpa [accs] using World.ownsRow_nil _ _ _ _⟩)
  have HM7 := hid (HM.out.same hk7)
  have HX7 := hid (hk7.blk HX.out (fun h => h))
  have HPK7 := hid (HPK.out.keep hk7)
  have HK7 : Hid (Keep0 w w7) := hid (HK6.out.trans hk7 (fun _ _ h => h))
  clear hw7 hk7 hbm how HM HX HPK HK6 HWG HWB
  generalize w6.heap.size = rq at *
  obtain rfl : rm = rq := hrm
  refine (law6_amount d _ hd).mono ?_
  rintro e w0 ⟨rfl, rfl⟩
  rw [HDD.out]
  go_wp2_with fail
  refine (r6_New b s g dd tn _ (by omega) x7 HX7K.out).mono ?_
  rintro e w8 ⟨y, rfl, hyz, hk, hby⟩
  have HK8s := Nat.le_trans HK7.out.size hyz
  have HY8 := hid (show Blk w8 y 86 (rcs6 b s g dd ⟨WW, [], 0, (x7 : Int), 0, 0, 0, 0⟩) from by simpa [rcs6] using hby)
  have HR8 := hid (HR7.out.keep hk (fun _ _ h => h))
  have HM8 := hid (HM7.out.same hk)
  have HX8 := hid (hk.blk HX7.out (fun h => h))
  have HPK8 := hid (HPK7.out.keep hk)
  have HK8 : Hid (Keep0 w w8) := hid (HK7.out.trans hk (fun _ _ h => h))
  clear hk hby HR7 HM7 HX7 HPK7 HK7
  have HAI := hid (AInv.start (b := b) (s := s) (g := g) (d := dd) (W := WW) (L := []) (x := (x7 : Int)) (by omega) (by omega) HP2.out.1 (by omega) (by omega) (by rw [HWF.out.lv]; exact HP2.out.2) (by omega))
  have hq0 : 0 ≤ most % 60 := Int.emod_nonneg _ (by omega)
  have hq1 : most % 60 < 60 := Int.emod_lt_of_pos _ (by omega)
  obtain ⟨q, hq⟩ := Int.eq_ofNat_of_zero_le hq0
  have hq60 : q < 60 := by omega
  have yq : most.tmod 60 = (q : Int) := by rw [Int.tmod_eq_emod_of_nonneg hmo.1]; exact hq
  clear hq hq0 hq1
  obtain ⟨kb, ko, hka, hkc⟩ := HPK8.out.at_
  have hp := play_add (B := w.heap.size) (w := w8) (m := m) (a := a) (x := x) (lv := lv) (b := b) (s := s) (g := g) (d := dd) ⟨WW, [], 0, (x7 : Int), 0, 0, 0, 0⟩ PK PA kb ko pc q HM8.out HX8.out HAI.out (by simp) (by omega) (by omega) HOK.out (fun h => by
    obtain ⟨e, hz⟩ := hka h
    have h4 := HPZ.out kb ko e h
    exact ⟨e, hz, by omega, by omega, by omega, fun e => by have := HLOG.out kb e; omega⟩) hkc
  have hr := fun (w9 : World) (hk9 : Keep (fun k => (k = m ∨ k = a ∨ k = x ∨ lv.ownBlock = some k) ∨ w8.heap.size ≤ k) w8 w9) (HR9 : RefAt w.heap.size w9 rm (some ⟨wg, 0, none⟩) N (.slice none 0 0) WW []) (HY9 : Blk w9 y 86 (rcs6 b s g dd ⟨WW, [], 0, (x7 : Int), 0, 0, 0, 0⟩)) => play_r6 (B := w.heap.size) (w := w9) (m := rm) (y := y) (A := some ⟨wg, 0, none⟩) (ca := N) (lv := .slice none 0 0) (b := b) (s := s) (g := g) (d := dd) ⟨WW, [], 0, (x7 : Int), 0, 0, 0, 0⟩ PK PA kb ko pc q HR9 HY9 HAI.out (by omega) (by simp) rfl (by omega) (by omega) HOK.out (fun h => by
    obtain ⟨e, hz⟩ := hka h
    have h4 := HPZ.out kb ko e h
    exact ⟨e, Nat.lt_of_lt_of_le hz hk9.size, by omega, by omega, by simp [Value.ownBlock]⟩) (fun i hi => by
    obtain ⟨e, hz⟩ := hka (by omega)
    have h4 := HPZ.out kb ko e (by omega)
    have hns : ¬ ((kb = m ∨ kb = a ∨ kb = x ∨ lv.ownBlock = some kb) ∨ w8.heap.size ≤ kb) := by
      rintro ((h | h | h | h) | h)
      · omega
      · omega
      · omega
      · have := HLOG.out kb h; omega
      · omega
    obtain ⟨h1, h2, h3⟩ := hkc i hi
    exact ⟨by rw [cell_old hk9 hz hns]; exact h1, by rw [cell_old hk9 hz hns]; exact h2, by rw [cell_old hk9 hz hns]; exact h3⟩)
  rw [show (AS.mk WW [] 0 (x7 : Int) 0 0 0 0).W.length = WW.length from rfl] at hp
  simp only [show (AS.mk WW [] 0 (x7 : Int) 0 0 0 0).W.length = WW.length from rfl] at hr
  have hpl := aPlay_log (b := b) (s := s) (g := g) (d := dd) WW.length PK q 0 ⟨WW, [], 0, (x7 : Int), 0, 0, 0, 0⟩
  have HPP := hid hp
  have HRR := hid hr
  clear hp hr hka hkc HPK8 HPZ HLOG HOK
  generalize playF (aStp b s g dd) aPk WW.length PK q 0 ⟨WW, [], 0, (x7 : Int), 0, 0, 0, 0⟩ = pf at *
  obtain ⟨pt, pn, pb⟩ := pf
  go_wp2_with fail
  refine HPP.out.mono ?_
  rintro e w9 ⟨rfl, ⟨kk, lv9, hm9, _, hx9, hl9, hlg9, hi9, _⟩, hk9⟩
  have hne1 : rm ≠ m := fun e => by have := hmz; omega
  have hne2 : rm ≠ a := fun e => by have := haz; omega
  have hne3 : rm ≠ x := fun e => by have := hxz; omega
  have HR9 := hid (HR8.out.keep hk9 (fun k hkk => by
    have hzr := HR8.out.mem.lt
    obtain ⟨wgc, hwgb⟩ : ∃ cs, Blk w8 wg 3 cs := by
      obtain ⟨g', e', hi', _⟩ := ints_own HR8.out.words (by omega) rfl
      cases e'
      exact hi'.blk_
    rintro ((h | h | h | h) | h)
    · rcases hkk with h2 | h2 | h2
      · omega
      · have h3 : wg = k := by simpa [Value.ownBlock] using h2
        exact hwgb.ne HM8.out.mem (by decide) (h3.trans h)
      · simp [Value.ownBlock] at h2
    · rcases hkk with h2 | h2 | h2
      · omega
      · have h3 : wg = k := by simpa [Value.ownBlock] using h2
        omega
      · simp [Value.ownBlock] at h2
    · rcases hkk with h2 | h2 | h2
      · omega
      · have h3 : wg = k := by simpa [Value.ownBlock] using h2
        exact hwgb.ne HX8.out (by decide) (h3.trans h)
      · simp [Value.ownBlock] at h2
    · rcases hkk with h2 | h2 | h2
      · exact ownBlock_ne HM8.out.log HR8.out.mem (by decide) (by rw [← h2]; exact h.symm)
      · have h3 : wg = k := by simpa [Value.ownBlock] using h2
        exact ownBlock_ne HM8.out.log hwgb (by decide) (by rw [h3]; exact h.symm)
      · simp [Value.ownBlock] at h2
    · rcases hkk with h2 | h2 | h2
      · omega
      · have h3 : wg = k := by simpa [Value.ownBlock] using h2
        have := hwgb.lt
        omega
      · simp [Value.ownBlock] at h2))
  have HY9 := hid (adplay_keeps HY8.out HM8.out HX8.out (by decide) (by decide) (by decide) (by decide) hk9)
  have HP9 := hid (HRR.out w9 hk9 HR9.out HY9.out)
  have HK9 : Hid (Keep0 w w9) := hid (adplay_far HM8.out hzx hk9 w HK8.out (Nat.le_refl _))
  have HM9 := hid hm9
  have hlw : pt.W.length = N := hl9.trans hln
  have HW9 := hid hi9
  clear hm9 hx9 hl9 hk9 hi9 HPP HRR HM8 HX8 HR8 HY8 HK8
  go_wp2_with fail
  refine HP9.out.mono ?_
  rintro e w10 ⟨rfl, ⟨jj, A10, c10, lv10, hr10, hy10, _, _, hl10, hlg10, _, _, _⟩, hk10⟩
  have HR10 := hid hr10
  have HM10 := hid (HM9.out.keep hk10 (fun k hkk => by
    rintro ((h | h | h) | h)
    · rcases hkk with h2 | h2 | h2
      · exact hne1 (h.symm.trans h2)
      · exact hne2 (h.symm.trans h2)
      · exact ownBlock_ne HM9.out.log HR9.out.mem (by decide) (by rw [← h]; exact h2.symm)
    · rcases hkk with h2 | h2 | h2
      · exact HY9.out.ne HM9.out.mem (by decide) (h.symm.trans h2)
      · exact HY9.out.ne HM9.out.words (by decide) (h.symm.trans h2)
      · exact ownBlock_ne HM9.out.log HY9.out (by decide) (by rw [← h]; exact h2.symm)
    · simp [Value.ownBlock] at h
    · rcases hkk with h2 | h2 | h2
      · have := HM9.out.mem.lt; omega
      · have := HM9.out.words.lt; omega
      · have := (HM9.out.log.lt k h2).2; omega))
  have HK10 : Hid (Keep0 w w10) := hid (keep_far6 HK9.out hk10 (by
    rintro k ((rfl | rfl | h) | h)
    · exact HR9.out.bm
    · have := HK8s; omega
    · simp [Value.ownBlock] at h
    · exact Nat.le_trans HK9.out.size h))
  have hgl := HWF.out.gl
  have hlw2 : pt.W.length ≤ 10000 := by omega
  have hlg : pt.L.length ≤ 100000 := by simp at hpl; omega
  clear hr10 hy10 hk10 HR9 HY9 HP9 HM9 HK9 HW9 hlg9 hlg10 hl10 hpl
  generalize pt.W = VV at *
  generalize pt.L = LL at *
  obtain ⟨rla, rlc, rfl, hla⟩ := refLog6 HR10.out
  obtain ⟨rg, rfl, hrg, _⟩ := ints_own HR10.out.words (by omega) rfl
  have HLA := hid hla
  have HRG := hid hrg
  have hrk := HR10.out.mem.lt
  clear hla hrg
  have hlw3 : b + 4 + s ≤ VV.length := by omega
  clear hlw
  go_wp2_with fail
  apply wp_region_free (WI := WTl w10 LL VV) (by kernel_rfl) (by kernel_rfl)
  case hob =>
    apply ObligF.fixed
    case h =>
      intro S gh w1 hwi hSi hd hcl
      apply StepOk.intro
      intro K hK
      go_simp
      apply hK
      · rfl
      · conv => (lhs; whnf)
      · exact hwi.fixed (by decide)
    simp only [put_lit, put_none]
    try dsimp only [List.set_cons_succ, List.set_cons_zero]
    apply ObligF.fixed
    case h =>
      intro S gh w1 hwi hSi hd hcl
      apply StepOk.intro
      intro K hK
      go_simp
      apply hK
      · rfl
      · conv => (lhs; whnf)
      · exact hwi.fixed (by decide)
    simp only [put_lit, put_none]
    try dsimp only [List.set_cons_succ, List.set_cons_zero]
    apply ObligF.fixed
    case h =>
      intro S gh w1 hwi hSi hd hcl
      apply StepOk.intro
      intro K hK
      go_simp
      apply hK
      · rfl
      · conv => (lhs; whnf)
      · exact hwi.fixed (by decide)
    simp only [put_lit, put_none]
    try dsimp only [List.set_cons_succ, List.set_cons_zero]
    apply ObligF.fixed
    case h =>
      intro S gh w1 hwi hSi hd hcl
      apply StepOk.intro
      intro K hK
      go_simp
      apply hK
      · rfl
      · conv => (lhs; whnf)
      · exact hwi.fixed (by decide)
    simp only [put_lit, put_none]
    try dsimp only [List.set_cons_succ, List.set_cons_zero]
    apply ObligF.fixed
    case h =>
      intro S gh w1 hwi hSi hd hcl
      apply StepOk.intro
      intro K hK
      go_simp
      apply hK
      · rfl
      · conv => (lhs; whnf)
      · exact hwi.fixed (by decide)
    simp only [put_lit, put_none]
    try dsimp only [List.set_cons_succ, List.set_cons_zero]
    apply ObligF.fixed
    case h =>
      intro S gh w1 hwi hSi hd hcl
      apply StepOk.intro
      intro K hK
      go_simp
      apply hK
      · rfl
      · conv => (lhs; whnf)
      · exact hwi.fixed (by decide)
    simp only [put_lit, put_none]
    try dsimp only [List.set_cons_succ, List.set_cons_zero]
    apply ObligF.fixed
    case h =>
      intro S gh w1 hwi hSi hd hcl
      apply StepOk.intro
      intro K hK
      go_simp
      apply hK
      · rfl
      · conv => (lhs; whnf)
      · exact hwi.fixed (by decide)
    simp only [put_lit, put_none]
    try dsimp only [List.set_cons_succ, List.set_cons_zero]
    apply ObligF.fixed
    case h =>
      intro S gh w1 hwi hSi hd hcl
      apply StepOk.intro
      intro K hK
      go_simp
      apply hK
      · rfl
      · conv => (lhs; whnf)
      · exact hwi.fixed (by decide)
    simp only [put_lit, put_none]
    try dsimp only [List.set_cons_succ, List.set_cons_zero]
    apply ObligF.fixed
    case h =>
      intro S gh w1 hwi hSi hd hcl
      apply StepOk.intro
      intro K hK
      go_simp
      apply hK
      · rfl
      · conv => (lhs; whnf)
      · exact hwi.fixed (by decide)
    simp only [put_lit, put_none]
    try dsimp only [List.set_cons_succ, List.set_cons_zero]
    apply ObligF.fixed
    case h =>
      intro S gh w1 hwi hSi hd hcl
      apply StepOk.intro
      intro K hK
      go_simp
      apply hK
      · rfl
      · conv => (lhs; whnf)
      · exact hwi.fixed (by decide)
    simp only [put_lit, put_none]
    try dsimp only [List.set_cons_succ, List.set_cons_zero]
    apply ObligF.fixed
    case h =>
      intro S gh w1 hwi hSi hd hcl
      apply StepOk.intro
      intro K hK
      go_simp
      apply hK
      · rfl
      · conv => (lhs; whnf)
      · exact hwi.fixed (by decide)
    simp only [put_lit, put_none]
    try dsimp only [List.set_cons_succ, List.set_cons_zero]
    apply ObligF.fixed
    case h =>
      intro S gh w1 hwi hSi hd hcl
      apply StepOk.intro
      intro K hK
      go_simp
      apply hK
      · rfl
      · conv => (lhs; whnf)
      · exact hwi.fixed (by decide)
    simp only [put_lit, put_none]
    try dsimp only [List.set_cons_succ, List.set_cons_zero]
    apply ObligF.fixed
    case h =>
      intro S gh w1 hwi hSi hd hcl
      apply StepOk.intro
      intro K hK
      go_simp
      apply hK
      · rfl
      · conv => (lhs; whnf)
      · exact hwi.fixed (by decide)
    simp only [put_lit, put_none]
    try dsimp only [List.set_cons_succ, List.set_cons_zero]
    apply ObligF.free
    case h =>
      intro S gh w1 hwi hSi hd hcl
      apply StepG.intro
      intro K hK
      go_simp
      refine (mem_Log (HM10.out.same hwi.1) (by omega)).mono ?_
      rintro e w2 ⟨A2, c2, rfl, ha, hk⟩
      apply hK
      · rfl
      · exact hwi.log hk ha
    simp only [put_lit, put_none]
    try dsimp only [List.set_cons_succ, List.set_cons_zero]
    apply ObligF.fixed
    case h =>
      intro S gh w1 hwi hSi hd hcl
      apply StepOk.intro
      intro K hK
      go_simp
      apply hK
      · rfl
      · conv => (lhs; whnf)
      · exact hwi.fixed (by decide)
    simp only [put_lit, put_none]
    try dsimp only [List.set_cons_succ, List.set_cons_zero]
    apply ObligF.fixed
    case h =>
      intro S gh w1 hwi hSi hd hcl
      apply StepOk.intro
      intro K hK
      go_simp
      apply hK
      · rfl
      · conv => (lhs; whnf)
      · exact hwi.fixed (by decide)
    simp only [put_lit, put_none]
    try dsimp only [List.set_cons_succ, List.set_cons_zero]
    apply ObligF.fixed
    case h =>
      intro S gh w1 hwi hSi hd hcl
      apply StepOk.intro
      intro K hK
      go_simp
      apply hK
      · rfl
      · conv => (lhs; whnf)
      · exact hwi.fixed (by decide)
    simp only [put_lit, put_none]
    try dsimp only [List.set_cons_succ, List.set_cons_zero]
    apply ObligF.fixed
    case h =>
      intro S gh w1 hwi hSi hd hcl
      apply StepOk.intro
      intro K hK
      have qm := (hwi.1.blk HR10.out.mem (fun h => h)).k2
      go_simp
      apply hK
      · rfl
      · conv => (lhs; whnf)
      · exact hwi.fixed (by decide)
    simp only [put_lit, put_none]
    try dsimp only [List.set_cons_succ, List.set_cons_zero]
    apply ObligF.fixed
    case h =>
      intro S gh w1 hwi hSi hd hcl
      apply StepOk.intro
      intro K hK
      obtain ⟨A1, c1, e1, ha1⟩ := hwi.2.1 (hd ⟨13, .data⟩ (by simp) rfl)
      rw [e1]
      go_simp
      refine (same_log A1 rla LL c1 rlc _ ha1 (HLA.out.keep hwi.1) (by omega)).mono ?_
      rintro e w2 ⟨rfl, hk⟩
      apply hK
      · rfl
      · conv => (lhs; whnf)
      · exact (hwi.keep hk).fixed (by decide)
    simp only [put_lit, put_none]
    try dsimp only [List.set_cons_succ, List.set_cons_zero]
    apply ObligF.fixed
    case h =>
      intro S gh w1 hwi hSi hd hcl
      apply StepOk.intro
      intro K hK
      go_simp
      apply hK
      · rfl
      · conv => (lhs; whnf)
      · exact hwi.fixed (by decide)
    simp only [put_lit, put_none]
    try dsimp only [List.set_cons_succ, List.set_cons_zero]
    apply ObligF.fixed
    case h =>
      intro S gh w1 hwi hSi hd hcl
      apply StepOk.intro
      intro K hK
      go_simp
      apply hK
      · rfl
      · conv => (lhs; whnf)
      · exact hwi.fixed (by decide)
    simp only [put_lit, put_none]
    try dsimp only [List.set_cons_succ, List.set_cons_zero]
    apply ObligF.fixed
    case h =>
      intro S gh w1 hwi hSi hd hcl
      apply StepOk.intro
      intro K hK
      go_simp
      apply hK
      · rfl
      · conv => (lhs; whnf)
      · exact hwi.fixed (by decide)
    simp only [put_lit, put_none]
    try dsimp only [List.set_cons_succ, List.set_cons_zero]
    apply ObligF.free
    case h =>
      intro S gh w1 hwi hSi hd hcl
      apply StepG.intro
      intro K hK
      go_simp
      refine (mem_Words (HM10.out.same hwi.1) (by omega)).mono ?_
      rintro e w2 ⟨g2, c2, rfl, hi, hk, _⟩
      apply hK
      · rfl
      · exact hwi.words hk hi.at_
    simp only [put_lit, put_none]
    try dsimp only [List.set_cons_succ, List.set_cons_zero]
    apply ObligF.fixed
    case h =>
      intro S gh w1 hwi hSi hd hcl
      apply StepOk.intro
      intro K hK
      go_simp
      apply hK
      · rfl
      · conv => (lhs; whnf)
      · exact hwi.fixed (by decide)
    simp only [put_lit, put_none]
    try dsimp only [List.set_cons_succ, List.set_cons_zero]
    apply ObligF.fixed
    case h =>
      intro S gh w1 hwi hSi hd hcl
      apply StepOk.intro
      intro K hK
      go_simp
      apply hK
      · rfl
      · conv => (lhs; whnf)
      · exact hwi.fixed (by decide)
    simp only [put_lit, put_none]
    try dsimp only [List.set_cons_succ, List.set_cons_zero]
    apply ObligF.fixed
    case h =>
      intro S gh w1 hwi hSi hd hcl
      apply StepOk.intro
      intro K hK
      go_simp
      apply hK
      · rfl
      · conv => (lhs; whnf)
      · exact hwi.fixed (by decide)
    simp only [put_lit, put_none]
    try dsimp only [List.set_cons_succ, List.set_cons_zero]
    apply ObligF.fixed
    case h =>
      intro S gh w1 hwi hSi hd hcl
      apply StepOk.intro
      intro K hK
      have qm := (hwi.1.blk HR10.out.mem (fun h => h)).k2
      go_simp
      apply hK
      · rfl
      · conv => (lhs; whnf)
      · exact hwi.fixed (by decide)
    simp only [put_lit, put_none]
    try dsimp only [List.set_cons_succ, List.set_cons_zero]
    apply ObligF.fixed
    case h =>
      intro S gh w1 hwi hSi hd hcl
      apply StepOk.intro
      intro K hK
      obtain ⟨A1, c1, e1, ha1⟩ := hwi.2.2 (hd ⟨22, .data⟩ (by simp) rfl)
      rw [e1]
      go_simp
      refine (same_ints A1 _ VV c1 c10 _ ha1 ((hwi.1.ints HRG.out (fun h => h)).at_) (by omega)).mono ?_
      rintro e w2 ⟨rfl, hk⟩
      apply hK
      · rfl
      · conv => (lhs; whnf)
      · exact (hwi.keep hk).fixed (by decide)
    simp only [put_lit, put_none]
    try dsimp only [List.set_cons_succ, List.set_cons_zero]
    apply ObligF.fixed
    case h =>
      intro S gh w1 hwi hSi hd hcl
      apply StepOk.intro
      intro K hK
      go_simp
      apply hK
      · rfl
      · conv => (lhs; whnf)
      · exact hwi.fixed (by decide)
    simp only [put_lit, put_none]
    try dsimp only [List.set_cons_succ, List.set_cons_zero]
    apply ObligF.fixed
    case h =>
      intro S gh w1 hwi hSi hd hcl
      apply StepOk.intro
      intro K hK
      go_simp
      apply hK
      · rfl
      · conv => (lhs; whnf)
      · exact hwi.fixed (by decide)
    simp only [put_lit, put_none]
    try dsimp only [List.set_cons_succ, List.set_cons_zero]
    apply ObligF.fixed
    case h =>
      intro S gh w1 hwi hSi hd hcl
      apply StepOk.intro
      intro K hK
      go_simp
      apply hK
      · rfl
      · conv => (lhs; whnf)
      · exact hwi.fixed (by decide)
    simp only [put_lit, put_none]
    try dsimp only [List.set_cons_succ, List.set_cons_zero]
    apply ObligF.fixed
    case h =>
      intro S gh w1 hwi hSi hd hcl
      apply StepOk.intro
      intro K hK
      go_simp
      apply hK
      · rfl
      · conv => (lhs; whnf)
      · exact hwi.fixed (by decide)
    simp only [put_lit, put_none]
    try dsimp only [List.set_cons_succ, List.set_cons_zero]
    apply ObligF.fixed
    case h =>
      intro S gh w1 hwi hSi hd hcl
      apply StepOk.intro
      intro K hK
      go_simp
      apply hK
      · rfl
      · conv => (lhs; whnf)
      · exact hwi.fixed (by decide)
    simp only [put_lit, put_none]
    try dsimp only [List.set_cons_succ, List.set_cons_zero]
    apply ObligF.fixed
    case h =>
      intro S gh w1 hwi hSi hd hcl
      apply StepOk.intro
      intro K hK
      go_simp
      refine (add_Sum b s (HM10.out.same hwi.1) (by omega) (by omega) (by omega)).mono ?_
      rintro e w2 ⟨rfl, hk⟩
      apply hK
      · rfl
      · conv => (lhs; whnf)
      · exact (hwi.keep hk).fixed (by decide)
    simp only [put_lit, put_none]
    try dsimp only [List.set_cons_succ, List.set_cons_zero]
    apply ObligF.fixed
    case h =>
      intro S gh w1 hwi hSi hd hcl
      apply StepOk.intro
      intro K hK
      go_simp
      apply hK
      · rfl
      · conv => (lhs; whnf)
      · exact hwi.fixed (by decide)
    simp only [put_lit, put_none]
    try dsimp only [List.set_cons_succ, List.set_cons_zero]
    apply ObligF.fixed
    case h =>
      intro S gh w1 hwi hSi hd hcl
      apply StepOk.intro
      intro K hK
      go_simp
      apply hK
      · rfl
      · conv => (lhs; whnf)
      · exact hwi.fixed (by decide)
    simp only [put_lit, put_none]
    try dsimp only [List.set_cons_succ, List.set_cons_zero]
    apply ObligF.fixed
    case h =>
      intro S gh w1 hwi hSi hd hcl
      apply StepOk.intro
      intro K hK
      go_simp
      apply hK
      · rfl
      · conv => (lhs; whnf)
      · exact hwi.fixed (by decide)
    simp only [put_lit, put_none]
    try dsimp only [List.set_cons_succ, List.set_cons_zero]
    apply ObligF.fixed
    case h =>
      intro S gh w1 hwi hSi hd hcl
      apply StepOk.intro
      intro K hK
      have qm := (hwi.1.blk HR10.out.mem (fun h => h)).k2
      go_simp
      apply hK
      · rfl
      · conv => (lhs; whnf)
      · exact hwi.fixed (by decide)
    simp only [put_lit, put_none]
    try dsimp only [List.set_cons_succ, List.set_cons_zero]
    apply ObligF.fixed
    case h =>
      intro S gh w1 hwi hSi hd hcl
      apply StepOk.intro
      intro K hK
      go_simp
      apply hK
      · rfl
      · conv => (lhs; whnf)
      · exact hwi.fixed (by decide)
    simp only [put_lit, put_none]
    try dsimp only [List.set_cons_succ, List.set_cons_zero]
    apply ObligF.fixed
    case h =>
      intro S gh w1 hwi hSi hd hcl
      apply StepOk.intro
      intro K hK
      go_simp
      apply hK
      · rfl
      · conv => (lhs; whnf)
      · exact hwi.fixed (by decide)
    simp only [put_lit, put_none]
    try dsimp only [List.set_cons_succ, List.set_cons_zero]
    apply ObligF.fixed
    case h =>
      intro S gh w1 hwi hSi hd hcl
      apply StepOk.intro
      intro K hK
      go_simp
      refine (r6_Sum (b := b) (s := s) rg VV.length c10 VV (hwi.1.ints HRG.out (fun h => h)) rfl (by omega) (by omega) (by omega)).mono ?_
      rintro e w2 ⟨rfl, hk⟩
      apply hK
      · rfl
      · conv => (lhs; whnf)
      · exact (hwi.keep hk).fixed (by decide)
    simp only [put_lit, put_none]
    try dsimp only [List.set_cons_succ, List.set_cons_zero]
    apply ObligF.fixed
    case h =>
      intro S gh w1 hwi hSi hd hcl
      apply StepOk.intro
      intro K hK
      go_simp
      apply hK
      · rfl
      · conv => (lhs; whnf)
      · exact hwi.fixed (by decide)
    simp only [put_lit, put_none]
    try dsimp only [List.set_cons_succ, List.set_cons_zero]
    apply ObligF.fixed
    case h =>
      intro S gh w1 hwi hSi hd hcl
      apply StepOk.intro
      intro K hK
      go_simp
      apply hK
      · rfl
      · conv => (lhs; whnf)
      · exact hwi.fixed (by decide)
    simp only [put_lit, put_none]
    try dsimp only [List.set_cons_succ, List.set_cons_zero]
    apply ObligF.fixed
    case h =>
      intro S gh w1 hwi hSi hd hcl
      apply StepOk.intro
      intro K hK
      go_simp
      apply hK
      · rfl
      · conv => (lhs; whnf)
      · exact hwi.fixed (by decide)
    simp only [put_lit, put_none]
    try dsimp only [List.set_cons_succ, List.set_cons_zero]
    apply ObligF.fixed
    case h =>
      intro S gh w1 hwi hSi hd hcl
      apply StepOk.intro
      intro K hK
      go_simp
      apply hK
      · rfl
      · conv => (lhs; whnf)
      · exact hwi.fixed (by decide)
    simp only [put_lit, put_none]
    try dsimp only [List.set_cons_succ, List.set_cons_zero]
    apply ObligF.fixed
    case h =>
      intro S gh w1 hwi hSi hd hcl
      apply StepOk.intro
      intro K hK
      go_simp
      refine (add_Ans x _).mono ?_
      rintro e w2 ⟨rfl, hk⟩
      apply hK
      · rfl
      · conv => (lhs; whnf)
      · exact (hwi.keep hk).fixed (by decide)
    simp only [put_lit, put_none]
    try dsimp only [List.set_cons_succ, List.set_cons_zero]
    apply ObligF.fixed
    case h =>
      intro S gh w1 hwi hSi hd hcl
      apply StepOk.intro
      intro K hK
      go_simp
      apply hK
      · rfl
      · conv => (lhs; whnf)
      · exact hwi.fixed (by decide)
    simp only [put_lit, put_none]
    try dsimp only [List.set_cons_succ, List.set_cons_zero]
    apply ObligF.fixed
    case h =>
      intro S gh w1 hwi hSi hd hcl
      apply StepOk.intro
      intro K hK
      go_simp
      apply hK
      · rfl
      · conv => (lhs; whnf)
      · exact hwi.fixed (by decide)
    simp only [put_lit, put_none]
    try dsimp only [List.set_cons_succ, List.set_cons_zero]
    apply ObligF.fixed
    case h =>
      intro S gh w1 hwi hSi hd hcl
      apply StepOk.intro
      intro K hK
      go_simp
      apply hK
      · rfl
      · conv => (lhs; whnf)
      · exact hwi.fixed (by decide)
    simp only [put_lit, put_none]
    try dsimp only [List.set_cons_succ, List.set_cons_zero]
    apply ObligF.fixed
    case h =>
      intro S gh w1 hwi hSi hd hcl
      apply StepOk.intro
      intro K hK
      go_simp
      apply hK
      · rfl
      · conv => (lhs; whnf)
      · exact hwi.fixed (by decide)
    simp only [put_lit, put_none]
    try dsimp only [List.set_cons_succ, List.set_cons_zero]
    exact ObligF.nil
  case h0 =>
    exact ⟨(Keep.refl _ _).drew, (fun h => by cases h), (fun h => by cases h)⟩
  case hend =>
    intro S gh wx hwi hall
    have HKX := hid hwi.1
    clear hwi hall
    go_wp2_with fail
    go_ret
    exact ⟨rfl, HK10.out.trans HKX.out (fun _ _ h => h)⟩
end Go.Proofs.Ytchlmaphaeoplaa
