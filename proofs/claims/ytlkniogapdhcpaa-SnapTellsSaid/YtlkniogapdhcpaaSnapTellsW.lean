/- SnapTells: what a peek and a count do, and answer, whatever others do, are the document's. -/
import Derived.Test.YtlkniogapdhcpaaSepSeven
import Derived.Test.YtlkniogapdhcpaaLawSixE
import Derived.Test.YtlkniogapdhcpaaRowSix
import Derived.Test.YtlkniogapdhcpaaLog
import Derived.Test.YtlkniogapdhcpaaPks
import Derived.Test.YtlkniogapdhcpaaGhostB
import Derived.Test.YtlkniogapdhcpaaRegionF
namespace Go.Proofs.Ytlkniogapdhcpaa
open Go.RowKit
set_option linter.unusedVariables false
set_option linter.unusedSimpArgs false
set_option maxRecDepth 100000
theorem laid_two {w w1 : World} {m a wg : Nat} {lv : Value} {W : List Int} (hk : Keep0 w w1) (hm : MemAt w.heap.size w1 m a lv W []) (hb : Blk w1 wg 3 (ints W)) (hne : wg ≠ a) (hzm : w.heap.size ≤ m) (hza : w.heap.size ≤ a) (hz : w.heap.size ≤ wg) :
    St w [memO w.heap.size m W [], Ass.blk wg 3 (ints W)] w1 :=
  St.two (R := MF m a lv) (V := fun k => k = wg) hk ⟨a, lv, hm, fun _ => Iff.rfl⟩ ⟨hb, fun _ => Iff.rfl⟩
    (fun k h e => by
      subst e
      rcases h with h | h | h
      · exact hb.ne hm.mem (by decide) h
      · exact hne h
      · exact ownBlock_ne hm.log hb (by decide) h.symm)
    (fun k h => by
      rcases h with rfl | rfl | h
      · exact hzm
      · exact hza
      · exact (hm.log.lt k h).1)
    (fun k e => by subst e; exact hz)
theorem ref_laid {w w1 w2 : World} {wg n : Nat} {p : Ass} {W : List Int} (h : St w [p, Ass.blk wg 3 (ints W)] w1) (hb : Blk w2 n 53 [.slice (some ⟨wg, 0, none⟩) W.length W.length, .slice none 0 0]) (hk : Keep0 w1 w2) (hn : w1.heap.size ≤ n) (h0 : 0 < W.length) (hl : W.length ≤ 1000000) :
    St w [refO w.heap.size n W [], p] w2 := by
  have h1 := St.nw h (Nw.blk hb hk hn)
  have h2 : St w [Ass.star (Ass.blk n 53 [.slice (some ⟨wg, 0, none⟩) W.length W.length, .slice none 0 0]) (Ass.blk wg 3 (ints W)), p] w2 := St.pair (St.perm h1 ((List.Perm.swap _ _ _).cons _))
  refine h2.mono ?_
  rintro V ⟨R1, R2, ⟨g1, g2⟩, ⟨g3, g4⟩, g5, g6⟩ hz
  have hbz : w.heap.size ≤ n := hz n ((g6 n).2 (Or.inl ((g2 n).2 rfl)))
  have hgz : w.heap.size ≤ wg := hz wg ((g6 wg).2 (Or.inr ((g4 wg).2 rfl)))
  refine ⟨some ⟨wg, 0, none⟩, W.length, .slice none 0 0, ⟨Nat.le_trans h.k.size hk.size, hbz, g1, own_full g3 hgz (by omega), by simpa [accs] using World.ownsRow_nil _ _ _ _⟩, fun k => ?_⟩
  rw [g6, g2, g4]
  unfold RF
  simp [Value.ownBlock]
  constructor
  · rintro (h | h)
    · exact Or.inl h
    · exact Or.inr h.symm
  · rintro (h | h)
    · exact Or.inl h
    · exact Or.inr h.symm
theorem kcells {w w1 : World} {K : List Pk} {kb ko : Nat} (hk : Keep0 w w1) (hz : 0 < K.length → kb < w.heap.size)
    (hc : ∀ i (h : i < K.length), w.cell? ⟨kb, ko + i * 3, none⟩ = some (i64 K[i].at_) ∧ w.cell? ⟨kb, ko + i * 3 + 1, none⟩ = some (i64 K[i].w) ∧ w.cell? ⟨kb, ko + i * 3 + 2, none⟩ = some (i64 K[i].x)) (i : Nat) (h : i < K.length) :
    w1.cell? ⟨kb, ko + i * 3, none⟩ = some (i64 K[i].at_) ∧ w1.cell? ⟨kb, ko + i * 3 + 1, none⟩ = some (i64 K[i].w) ∧ w1.cell? ⟨kb, ko + i * 3 + 2, none⟩ = some (i64 K[i].x) := by
  have hb := hz (by omega)
  obtain ⟨h1, h2, h3⟩ := hc i h
  exact ⟨by rw [cell_old hk hb (fun h => h)]; exact h1, by rw [cell_old hk hb (fun h => h)]; exact h2, by rw [cell_old hk hb (fun h => h)]; exact h3⟩
theorem snP {B m x b s len most : Nat} {t : SN} {l : List Pk} {PF : SN × Nat × Bool} {R : Nat → Prop} {w : World} {args : Array Value} (hpf : PF = playF (nStp b s) nPk len l most 0 t)
    (h : Calls Try.prog 14 args w fun e w' => e = .returned (.tuple #[i64 (playF (nStp b s) nPk len l most 0 t).2.1, .bool (playF (nStp b s) nPk len l most 0 t).2.2]) ∧ Tr ((memO B m (playF (nStp b s) nPk len l most 0 t).1.W (playF (nStp b s) nPk len l most 0 t).1.L).star (snO b s x (playF (nStp b s) nPk len l most 0 t).1)) R w w' ∧ ∃ n, PI7 (NInv b s) len 0 n (playF (nStp b s) nPk len l most 0 t).1) :
    Calls Try.prog 14 args w fun e w' => (e = .returned (.tuple #[i64 PF.2.1, .bool PF.2.2]) ∧ PF.1.W.length = len) ∧ Tr ((memO B m PF.1.W PF.1.L).star (snO b s x PF.1)) R w w' := by
  subst hpf
  refine h.mono ?_
  rintro e w' ⟨h1, h2, n, h3⟩
  exact ⟨⟨h1, h3.2.1⟩, h2⟩
theorem snR {B m x b s len most : Nat} {t : SN} {l : List Pk} {PF : SN × Nat × Bool} {R : Nat → Prop} {w : World} {args : Array Value} (hpf : PF = playF (nStp b s) nPk len l most 0 t)
    (h : Calls Try.prog 20 args w fun e w' => e = .returned (.tuple #[i64 (playF (nStp b s) nPk len l most 0 t).2.1, .bool (playF (nStp b s) nPk len l most 0 t).2.2]) ∧ Tr ((refO B m (playF (nStp b s) nPk len l most 0 t).1.W (playF (nStp b s) nPk len l most 0 t).1.L).star (r7O b s false x (playF (nStp b s) nPk len l most 0 t).1)) R w w' ∧ ∃ n, PI7 (NInv b s) len 0 n (playF (nStp b s) nPk len l most 0 t).1) :
    Calls Try.prog 20 args w fun e w' => (e = .returned (.tuple #[i64 PF.2.1, .bool PF.2.2])) ∧ Tr ((refO B m PF.1.W PF.1.L).star (r7O b s false x PF.1)) R w w' := by
  subst hpf
  refine h.mono ?_
  rintro e w' ⟨h1, h2, n, h3⟩
  exact ⟨h1, h2⟩
theorem snP2 {B m x b len len2 L0 most : Nat} {t : SN} {l : List Pk} {PF : SN × Nat × Bool} {R : Nat → Prop} {w : World} {args : Array Value} (hpf : PF = playF (gStp b) nPk len l most 0 t) (hlen : len2 = len)
    (h : Calls Try.prog 14 args w fun e w' => e = .returned (.tuple #[i64 (playF (gStp b) nPk len2 l most 0 t).2.1, .bool (playF (gStp b) nPk len2 l most 0 t).2.2]) ∧ Tr ((memO B m (playF (gStp b) nPk len2 l most 0 t).1.W (playF (gStp b) nPk len2 l most 0 t).1.L).star (pkO b x (playF (gStp b) nPk len2 l most 0 t).1)) R w w' ∧ ∃ n, PI7 (GInv b) len2 L0 n (playF (gStp b) nPk len2 l most 0 t).1) :
    Calls Try.prog 14 args w fun e w' => (e = .returned (.tuple #[i64 PF.2.1, .bool PF.2.2]) ∧ PF.1.W.length = len) ∧ Tr ((memO B m PF.1.W PF.1.L).star (pkO b x PF.1)) R w w' := by
  subst hlen
  subst hpf
  refine h.mono ?_
  rintro e w' ⟨h1, h2, n, h3⟩
  exact ⟨⟨h1, h3.2.1⟩, h2⟩
theorem snR2 {B m x b len len2 L0 most : Nat} {t : SN} {l : List Pk} {PF : SN × Nat × Bool} {R : Nat → Prop} {w : World} {args : Array Value} (hpf : PF = playF (gStp b) nPk len l most 0 t) (hlen : len2 = len)
    (h : Calls Try.prog 20 args w fun e w' => e = .returned (.tuple #[i64 (playF (gStp b) nPk len2 l most 0 t).2.1, .bool (playF (gStp b) nPk len2 l most 0 t).2.2]) ∧ Tr ((refO B m (playF (gStp b) nPk len2 l most 0 t).1.W (playF (gStp b) nPk len2 l most 0 t).1.L).star (r7O b 0 true x (playF (gStp b) nPk len2 l most 0 t).1)) R w w' ∧ ∃ n, PI7 (GInv b) len2 L0 n (playF (gStp b) nPk len2 l most 0 t).1) :
    Calls Try.prog 20 args w fun e w' => (e = .returned (.tuple #[i64 PF.2.1, .bool PF.2.2])) ∧ Tr ((refO B m PF.1.W PF.1.L).star (r7O b 0 true x PF.1)) R w w' := by
  subst hlen
  subst hpf
  refine h.mono ?_
  rintro e w' ⟨h1, h2, n, h3⟩
  exact ⟨h1, h2⟩
/-- what the free values of a region are: the log (operation i), the words (j) -/
def dl7 (i j : Nat) (LL : List Acc) (VV : List Int) (k : Nat) (u : Value) (w : World) : Prop := (k = i → ∃ A c, u = .slice A LL.length c ∧ AccsAt w A LL) ∧ (k = j → ∃ A c, u = .slice A VV.length c ∧ IntsAt w A VV)
theorem dl7_stable {i j : Nat} {LL : List Acc} {VV : List Int} : Stable (dl7 i j LL VV) := by
  rintro k u w w' ⟨h1, h2⟩ hk
  refine ⟨fun e => ?_, fun e => ?_⟩
  · obtain ⟨A, c, e, h⟩ := h1 e; exact ⟨A, c, e, h.keep hk⟩
  · obtain ⟨A, c, e, h⟩ := h2 e; exact ⟨A, c, e, h.keep hk⟩
theorem refLog7 {B : Nat} {w : World} {m : Nat} {A : Option Addr} {c : Nat} {lv : Value} {W : List Int} {L : List Acc} (h : RefAt B w m A c lv W L) : ∃ LA LC, lv = .slice LA L.length LC ∧ AccsAt w LA L := by
  have hl := h.log
  rcases hl.2 with ⟨e, h0⟩ | ⟨g, cap, cur, e, _, _, _⟩
  · exact ⟨none, 0, by rw [e, h0], Or.inl (List.eq_nil_of_length_eq_zero h0)⟩
  · exact ⟨some ⟨g, 0, none⟩, cap, e, accs_of_row (e ▸ hl) rfl⟩
set_option maxHeartbeats 12000000 in
theorem snapTells_walk {w : World} {v0 v1 : Value} (hc : CounterIn w v0) (hK0 : ∃ l, pksIn w v1 l) (retry : Int) (hretry : (Lit.int .u8 retry).wf = true) (most : Int) (hy : (Lit.int .u8 most).wf = true) : Calls Try.prog 5 #[v0, v1, .int .u8 retry, .int .u8 most] w (Ret (.bool true) w) := by
  have hretry := bounds_u8 hretry
  have hy := bounds_u8 hy
  obtain ⟨mo, rfl⟩ := Int.eq_ofNat_of_zero_le hy.1

  have hmo9 : mo ≤ 255 := by omega

  obtain ⟨K, KA, kc, rfl, _, hK⟩ := hK0
  obtain ⟨kb, ko, hkb, hkc0⟩ := hK.at_
  have HKC := hid hkc0
  clear hK hkc0
  obtain ⟨ba, sr, ga, gl, li, VA, V, vc, UA, U, uc, rfl, h0, h1, h2, h3, h4, hV, hv1, hvb, hU, hu1, hub⟩ := hc
  obtain ⟨b, hb⟩ : ∃ b : Nat, (b : Int) = ba % 8 := ⟨(ba % 8).toNat, by omega⟩
  have hz1 := sz4_bd sr
  have hz2 := sz4_bd li
  obtain ⟨s, hs⟩ : ∃ s : Nat, (s : Int) = sz4 sr := ⟨(sz4 sr).toNat, by omega⟩
  obtain ⟨g, hg⟩ : ∃ g : Nat, (g : Int) = ga % 40 + 1 := ⟨(ga % 40 + 1).toNat, by omega⟩
  obtain ⟨l, hl⟩ : ∃ l : Nat, (l : Int) = min (sz4 li) (sz4 sr) := ⟨(min (sz4 li) (sz4 sr)).toNat, by omega⟩
  have HP2 := hid (show p2 (s : Int) ∧ p2 (l : Int) ∧ (l : Int) ≤ s from ⟨by rw [hs]; exact sz4_p2 _, by rw [hl]; exact (p2_min (sz4_p2 _) (sz4_p2 _)).1, by rw [hl, hs]; exact (p2_min (sz4_p2 _) (sz4_p2 _)).2⟩)
  have hbb : b ≤ 7 := by omega
  have hss : 1 ≤ s ∧ s ≤ 8 := by omega
  have hgg : 1 ≤ g ∧ g ≤ 40 := by omega
  have hll : 1 ≤ l ∧ l ≤ 8 := by omega
  have HSZ := hid (fun w' => law6_Size ba sr ga gl li VA V.length vc UA U.length uc w' h0 h1 h2 h4)
  rw [← hl, ← hb, ← hs, ← hg] at HSZ
  have HWO := hid (fun (w' : World) (hk : Keep0 w w') hv hu => law6_Words ba sr ga gl li VA V vc UA U uc w' b s g l h0 h1 h2 h4 h3 (hV.keep hk) (hU.keep hk) hv hu hvb hub hb hs hg hl)
  skip
  have HK0 : Hid (Keep0 w (w.alloc (.cells #[.int .u8 ba, .int .u8 sr, .int .u16 ga, .int .i32 gl, .int .u8 li, .slice VA V.length vc, .slice UA U.length uc] 26))) := hid ((Keep.refl _ _).alloc _)
  clear hV hU hv1 hu1 hvb hub h0 h1 h2 h4 hb hs hg hl hz1 hz2
  have hr0 : 0 ≤ retry % 8 := Int.emod_nonneg _ (by omega)
  have hr1 : retry % 8 < 8 := Int.emod_lt_of_pos _ (by omega)
  obtain ⟨r, hrr⟩ : ∃ r : Nat, (r : Int) = retry % 8 + 1 := ⟨(retry % 8 + 1).toNat, by omega⟩
  have hr8 : 1 ≤ r ∧ r ≤ 8 := by omega
  have yr1 : IntKind.i64.wrap (retry % 8 + 1) = (r : Int) := by rw [hrr]; exact IntWalk.i64_in _ (by omega)
  have yr2 : retry.tmod 8 = retry % 8 := Int.tmod_eq_emod_of_nonneg hretry.1
  clear hrr hr0 hr1
  go_enter Try.func5, Try.ntmps5
  go_wp2_with fail
  have HB : Hid (Blk (w.alloc (.cells #[.int .u8 ba, .int .u8 sr, .int .u16 ga, .int .i32 gl, .int .u8 li, .slice VA V.length vc, .slice UA U.length uc] 26)) w.heap.size 26 [.int .u8 ba, .int .u8 sr, .int .u16 ga, .int .i32 gl, .int .u8 li, .slice VA V.length vc, .slice UA U.length uc]) := hid (Blk.made rfl rfl)
  have qHB := HB.out.k7
  refine (law7_head _).mono ?_
  rintro e w1 ⟨rfl, hk⟩
  have HK1 : Hid (Keep0 w w1) := hid (Keep0.step (by repeat (with_reducible first | exact Keep.refl _ _ | exact HK0.out | apply Keep.alloc | apply Keep.drewN | apply Keep.drew)) hk)
  have THB := hk.blk (show Blk _ _ _ _ from by repeat (with_reducible first | exact HB.out | apply Blk.alloc | apply Blk.drewN | apply Blk.drew)) (fun h => h)
  clear hk qHB HB HK0
  have HB := hid THB
  clear THB
  have qHB := HB.out.k7
  by_cases hgd0 : 40 < K.length
  · go_wp2_with fail
    go_ret
    exact ⟨rfl, HK1.out⟩
  by_cases hgd1 : 20 < V.length
  · go_wp2_with fail
    go_ret
    exact ⟨rfl, HK1.out⟩
  by_cases hgd2 : 20 < U.length
  · go_wp2_with fail
    go_ret
    exact ⟨rfl, HK1.out⟩
  go_wp2_with fail
  refine (HSZ.out _).mono ?_
  rintro e w2 ⟨rfl, hk⟩
  have HK2 : Hid (Keep0 w w2) := hid (Keep0.step (by repeat (with_reducible first | exact Keep.refl _ _ | exact HK1.out | apply Keep.alloc | apply Keep.drewN | apply Keep.drew)) hk)
  have THB := hk.blk (show Blk _ _ _ _ from by repeat (with_reducible first | exact HB.out | apply Blk.alloc | apply Blk.drewN | apply Blk.drew)) (fun h => h)
  clear hk qHB HB HK1
  have HB := hid THB
  clear THB
  have qHB := HB.out.k7
  clear HSZ
  go_wp2_with fail
  refine (HWO.out _ (by repeat (with_reducible first | exact Keep.refl _ _ | exact HK2.out | apply Keep.alloc | apply Keep.drewN | apply Keep.drew)) (by omega) (by omega)).mono ?_
  rintro e w3 ⟨wg, rfl, hwg, hk, hwge⟩
  generalize hN : b + 4 + s + 3 = N at *
  have HWF := hid (wf6 b s g gl l V U hgg)
  generalize words6 b g (zero6 b s gl l) V U s = WW at *
  have HN := hid hN
  have hln : WW.length = N := HWF.out.ln.trans hN
  have hN1 : b + 4 + s ≤ N := by omega
  have hN2 : N ≤ 22 := by omega
  clear hN
  have HWB := hid hwg
  have HWG := hid (Blk.ints hwg)
  have hwz : w.heap.size ≤ wg := Nat.le_trans HK2.out.size (by simpa using hwge)
  have HK3 : Hid (Keep0 w w3) := hid (Keep0.step (by repeat (with_reducible first | exact Keep.refl _ _ | exact HK2.out | apply Keep.alloc | apply Keep.drewN | apply Keep.drew)) hk)
  have THB := hk.blk (show Blk _ _ _ _ from by repeat (with_reducible first | exact HB.out | apply Blk.alloc | apply Blk.drewN | apply Blk.drew)) (fun h => h)
  clear hk qHB HB HK2
  have HB := hid THB
  clear THB
  have qHB := HB.out.k7
  clear hwg HWO hwge
  clear qHB HB
  go_wp2_with fail
  refine (law7_laid w.heap.size _ wg _ N WW HWG.out hln.symm (by omega) (by have := HK3.out.size; omega)).mono ?_
  rintro e w4 ⟨m, a, lv, rfl, hm, hk, hzm, hza⟩
  have hzm' : w.heap.size ≤ m := Nat.le_trans HK3.out.size hzm
  have hza' : w.heap.size ≤ a := Nat.le_trans HK3.out.size hza
  have hwgm : wg ≠ a := by have := HWG.out.lt; omega
  have HK4 : Hid (Keep0 w w4) := hid (Keep0.step (by repeat (with_reducible first | exact Keep.refl _ _ | exact HK3.out | apply Keep.alloc | apply Keep.drewN | apply Keep.drew)) hk)
  have THWG := hk.ints (show Ints _ _ _ from by repeat (with_reducible first | exact HWG.out | apply Ints.alloc | apply Ints.drewN | apply Ints.drew)) (fun h => h)
  have THWB := hk.blk (show Blk _ _ _ _ from by repeat (with_reducible first | exact HWB.out | apply Blk.alloc | apply Blk.drewN | apply Blk.drew)) (fun h => h)
  clear hk HWG HWB HK3
  have HWG := hid THWG
  clear THWG
  have HWB := hid THWB
  clear THWB
  have HM := hid hm
  clear hm hzm hza
  have hs0 := laid_two HK4.out HM.out HWB.out hwgm hzm' hza' hwz
  have HS := hid hs0
  have HLL := hid hln
  have hl1 : b + 4 + s ≤ WW.length := by omega
  have hl2 : WW.length ≤ 22 := by omega
  clear hs0 HM HWB HWG HK4 hzm' hza' hwgm hwz hln
  go_wp2_with fail
  obtain ⟨w5, hw7⟩ : ∃ w', w' = w4.alloc (.cells #[.slice (some ⟨wg, 0, none⟩) N N, .slice none 0 0] 53) := ⟨_, rfl⟩
  rw [← hw7]
  obtain ⟨n, hn⟩ : ∃ n, n = w4.heap.size := ⟨_, rfl⟩
  rw [← hn]
  have hs7 := ref_laid HS.out (show Blk w5 n 53 [.slice (some ⟨wg, 0, none⟩) WW.length WW.length, .slice none 0 0] from by rw [hw7, hn, HLL.out]; exact Blk.made rfl rfl) (by rw [hw7]; exact (Keep.refl _ _).alloc _) (by omega) (by omega) (by omega)
  clear HS
  have HS := hid (show St w [refO w.heap.size n WW [], memO w.heap.size m WW []] w5 from hs7)
  clear hw7 hn hs7
  clear HLL
  go_wp2_with fail
  refine Calls.mono (St.newx (q := fun x => snO b s x ⟨WW, [], (r : Int), [], 0, false, false⟩) (show St w [refO w.heap.size n WW [], memO w.heap.size m WW []] _ from (show St w [refO w.heap.size n WW [], memO w.heap.size m WW []] _ from by repeat (with_reducible first | exact HS.out | apply St.alloc | apply St.drewN | apply St.drew))) (snO_New b s (r : Int) _ WW [] (by omega) (by omega))) ?_
  rintro e w6 ⟨x, rfl, hs⟩
  clear HS
  have HS := hid (show St w [snO b s x ⟨WW, [], (r : Int), [], 0, false, false⟩, refO w.heap.size n WW [], memO w.heap.size m WW []] w6 from hs)
  clear hs
  go_wp2_with fail
  refine Calls.mono (St.newx (q := fun y => r7O b s false y ⟨WW, [], (r : Int), [], 0, false, false⟩) (show St w [snO b s x ⟨WW, [], (r : Int), [], 0, false, false⟩, refO w.heap.size n WW [], memO w.heap.size m WW []] _ from (show St w [snO b s x ⟨WW, [], (r : Int), [], 0, false, false⟩, refO w.heap.size n WW [], memO w.heap.size m WW []] _ from by repeat (with_reducible first | exact HS.out | apply St.alloc | apply St.drewN | apply St.drew))) (r7O_NewC b s (r : Int) _ WW [])) ?_
  rintro e w7 ⟨y, rfl, hs⟩
  clear HS
  have HS := hid (show St w [r7O b s false y ⟨WW, [], (r : Int), [], 0, false, false⟩, snO b s x ⟨WW, [], (r : Int), [], 0, false, false⟩, refO w.heap.size n WW [], memO w.heap.size m WW []] w7 from hs)
  clear hs
  have hcp := nPlay_count b s WW.length K mo 0 ⟨WW, [], (r : Int), [], 0, false, false⟩ rfl
  obtain ⟨PF, hPF⟩ : ∃ PF, PF = playF (nStp b s) nPk WW.length K mo 0 ⟨WW, [], (r : Int), [], 0, false, false⟩ := ⟨_, rfl⟩
  rw [← hPF] at hcp
  have HPF := hid hPF
  clear hPF
  go_wp2_with fail
  refine Calls.mono (St.call (q := Ass.star (memO w.heap.size m PF.1.W PF.1.L) (snO b s x PF.1)) (St.pair (show St w [memO w.heap.size m WW [], snO b s x ⟨WW, [], (r : Int), [], 0, false, false⟩, r7O b s false y ⟨WW, [], (r : Int), [], 0, false, false⟩, refO w.heap.size n WW []] _ from (St.pick (St.pick (show St w [r7O b s false y ⟨WW, [], (r : Int), [], 0, false, false⟩, snO b s x ⟨WW, [], (r : Int), [], 0, false, false⟩, refO w.heap.size n WW [], memO w.heap.size m WW []] _ from by repeat (with_reducible first | exact HS.out | apply St.alloc | apply St.drewN | apply St.drew)) 1 (by simp)) 3 (by simp)))) (fun R hr hz => snP HPF.out (snO_Play (b := b) (s := s) ⟨WW, [], (r : Int), [], 0, false, false⟩ K KA kb ko kc mo (by omega) (by simp) (by omega) (by omega) (by show WW.length ≤ _; omega) (fun h => ⟨(hkb h).1, Nat.lt_of_lt_of_le (hkb h).2 HS.out.k.size, fun hr2 => by have := hz _ hr2; have := (hkb h).2; omega⟩) (fun i hi => kcells HS.out.k (fun h => (hkb h).2) HKC.out i hi) hr (NInv.start (by show b + 4 + s ≤ WW.length; omega) (by show WW.length ≤ 10000; omega) hss (by omega))))) ?_
  rintro e w8 ⟨⟨rfl, hq1⟩, hs⟩
  clear HS
  have HS := hid (show St w [memO w.heap.size m PF.1.W PF.1.L, snO b s x PF.1, r7O b s false y ⟨WW, [], (r : Int), [], 0, false, false⟩, refO w.heap.size n WW []] w8 from St.part hs)
  clear hs
  go_wp2_with fail
  refine Calls.mono (St.call (q := Ass.star (refO w.heap.size n PF.1.W PF.1.L) (r7O b s false y PF.1)) (St.pair (show St w [refO w.heap.size n WW [], r7O b s false y ⟨WW, [], (r : Int), [], 0, false, false⟩, memO w.heap.size m PF.1.W PF.1.L, snO b s x PF.1] _ from (St.pick (St.pick (show St w [memO w.heap.size m PF.1.W PF.1.L, snO b s x PF.1, r7O b s false y ⟨WW, [], (r : Int), [], 0, false, false⟩, refO w.heap.size n WW []] _ from by repeat (with_reducible first | exact HS.out | apply St.alloc | apply St.drewN | apply St.drew)) 2 (by simp)) 3 (by simp)))) (fun R hr hz => snR HPF.out (r7O_PlayC (b := b) (s := s) ⟨WW, [], (r : Int), [], 0, false, false⟩ K KA kb ko kc mo (by omega) (by simp) (by omega) (by omega) (by show WW.length ≤ _; omega) (fun h => ⟨(hkb h).1, Nat.lt_of_lt_of_le (hkb h).2 HS.out.k.size, fun hr2 => by have := hz _ hr2; have := (hkb h).2; omega⟩) (fun i hi => kcells HS.out.k (fun h => (hkb h).2) HKC.out i hi) hr (NInv.start (by show b + 4 + s ≤ WW.length; omega) (by show WW.length ≤ 10000; omega) hss (by omega))))) ?_
  rintro e w9 ⟨rfl, hs⟩
  clear HS
  have HS := hid (show St w [refO w.heap.size n PF.1.W PF.1.L, r7O b s false y PF.1, memO w.heap.size m PF.1.W PF.1.L, snO b s x PF.1] w9 from St.part hs)
  clear hs
  obtain ⟨pt, pn, pb⟩ := PF
  have hs := HS.out
  clear HS
  have HS := hid (show St w [refO w.heap.size n pt.W pt.L, r7O b s false y pt, memO w.heap.size m pt.W pt.L, snO b s x pt] w9 from hs)
  clear hs
  have hlg : pt.L.length + 0 = 0 + pn := hcp.log
  have hle : pn ≤ 0 + mo := hcp.le
  have hl3 : pt.L.length ≤ 255 := by omega
  clear hlg hle hcp
  have hpw : pt.W.length = WW.length := hq1
  clear hq1
  obtain ⟨_, ⟨ma, mlv, hm, _⟩, _⟩ := St.get (show St w [memO w.heap.size m pt.W pt.L, refO w.heap.size n pt.W pt.L, r7O b s false y pt, snO b s x pt] w9 from (St.pick (show St w [refO w.heap.size n pt.W pt.L, r7O b s false y pt, memO w.heap.size m pt.W pt.L, snO b s x pt] w9 from by repeat (with_reducible first | exact HS.out | apply St.alloc | apply St.drewN | apply St.drew)) 2 (by simp)))
  obtain ⟨_, ⟨nA, nc, nlv, hn, _⟩, _⟩ := St.get (show St w [refO w.heap.size n pt.W pt.L, r7O b s false y pt, memO w.heap.size m pt.W pt.L, snO b s x pt] w9 from (show St w [refO w.heap.size n pt.W pt.L, r7O b s false y pt, memO w.heap.size m pt.W pt.L, snO b s x pt] w9 from by repeat (with_reducible first | exact HS.out | apply St.alloc | apply St.drewN | apply St.drew)))
  have HM := hid hm
  have HN := hid hn
  obtain ⟨rla, rlc, rfl, hla⟩ := refLog7 hn
  obtain ⟨rg, rfl, hrg, _⟩ := ints_own hn.words (by omega) rfl
  have HLA := hid hla
  have HRG := hid hrg
  have HNB := hid hn.mem
  clear hm hn hla hrg
  obtain ⟨_, hx, _⟩ := St.get (show St w [snO b s x pt, refO w.heap.size n pt.W pt.L, r7O b s false y pt, memO w.heap.size m pt.W pt.L] w9 from (St.pick (show St w [refO w.heap.size n pt.W pt.L, r7O b s false y pt, memO w.heap.size m pt.W pt.L, snO b s x pt] w9 from by repeat (with_reducible first | exact HS.out | apply St.alloc | apply St.drewN | apply St.drew)) 3 (by simp)))
  obtain ⟨_, ⟨yA, hy7, _⟩, _⟩ := St.get (show St w [r7O b s false y pt, refO w.heap.size n pt.W pt.L, memO w.heap.size m pt.W pt.L, snO b s x pt] w9 from (St.pick (show St w [refO w.heap.size n pt.W pt.L, r7O b s false y pt, memO w.heap.size m pt.W pt.L, snO b s x pt] w9 from by repeat (with_reducible first | exact HS.out | apply St.alloc | apply St.drewN | apply St.drew)) 1 (by simp)))
  obtain ⟨an, han⟩ : ∃ an : Int, an = pt.n := ⟨_, rfl⟩
  obtain ⟨ax, hax⟩ : ∃ ax : Bool, ax = pt.ex := ⟨_, rfl⟩
  have HAN := hid (And.intro han.symm hax.symm)
  have HX := hid hx
  have HY := hid hy7
  clear hx hy7 han hax
  go_wp2_with fail
  apply wp_region_free (WI := fun S gh wx => Keep0 w9 wx ∧ GWI (dl7 10 99 pt.L pt.W) S gh wx) (by kernel_rfl) (by kernel_rfl)
  case hob =>
    apply ObligF.fixed
    case h =>
      intro S gh w1 hwi hSi hd hcl
      apply StepOk.intro
      intro K hK
      go_simp
      apply hK
      · rfl
      · conv => (lhs; whnf)
      · exact ⟨hwi.1, GWI.fixed hwi.2 ⟨fun h => absurd h (by decide), fun h => absurd h (by decide)⟩⟩
    simp only [put_lit, put_none]
    try dsimp only [List.set_cons_succ, List.set_cons_zero]
    apply ObligF.fixed
    case h =>
      intro S gh w1 hwi hSi hd hcl
      apply StepOk.intro
      intro K hK
      go_simp
      apply hK
      · rfl
      · conv => (lhs; whnf)
      · exact ⟨hwi.1, GWI.fixed hwi.2 ⟨fun h => absurd h (by decide), fun h => absurd h (by decide)⟩⟩
    simp only [put_lit, put_none]
    try dsimp only [List.set_cons_succ, List.set_cons_zero]
    apply ObligF.fixed
    case h =>
      intro S gh w1 hwi hSi hd hcl
      apply StepOk.intro
      intro K hK
      go_simp
      apply hK
      · rfl
      · conv => (lhs; whnf)
      · exact ⟨hwi.1, GWI.fixed hwi.2 ⟨fun h => absurd h (by decide), fun h => absurd h (by decide)⟩⟩
    simp only [put_lit, put_none]
    try dsimp only [List.set_cons_succ, List.set_cons_zero]
    apply ObligF.fixed
    case h =>
      intro S gh w1 hwi hSi hd hcl
      apply StepOk.intro
      intro K hK
      go_simp
      apply hK
      · rfl
      · conv => (lhs; whnf)
      · exact ⟨hwi.1, GWI.fixed hwi.2 ⟨fun h => absurd h (by decide), fun h => absurd h (by decide)⟩⟩
    simp only [put_lit, put_none]
    try dsimp only [List.set_cons_succ, List.set_cons_zero]
    apply ObligF.fixed
    case h =>
      intro S gh w1 hwi hSi hd hcl
      apply StepOk.intro
      intro K hK
      go_simp
      apply hK
      · rfl
      · conv => (lhs; whnf)
      · exact ⟨hwi.1, GWI.fixed hwi.2 ⟨fun h => absurd h (by decide), fun h => absurd h (by decide)⟩⟩
    simp only [put_lit, put_none]
    try dsimp only [List.set_cons_succ, List.set_cons_zero]
    apply ObligF.fixed
    case h =>
      intro S gh w1 hwi hSi hd hcl
      apply StepOk.intro
      intro K hK
      go_simp
      apply hK
      · rfl
      · conv => (lhs; whnf)
      · exact ⟨hwi.1, GWI.fixed hwi.2 ⟨fun h => absurd h (by decide), fun h => absurd h (by decide)⟩⟩
    simp only [put_lit, put_none]
    try dsimp only [List.set_cons_succ, List.set_cons_zero]
    apply ObligF.fixed
    case h =>
      intro S gh w1 hwi hSi hd hcl
      apply StepOk.intro
      intro K hK
      go_simp
      apply hK
      · rfl
      · conv => (lhs; whnf)
      · exact ⟨hwi.1, GWI.fixed hwi.2 ⟨fun h => absurd h (by decide), fun h => absurd h (by decide)⟩⟩
    simp only [put_lit, put_none]
    try dsimp only [List.set_cons_succ, List.set_cons_zero]
    apply ObligF.fixed
    case h =>
      intro S gh w1 hwi hSi hd hcl
      apply StepOk.intro
      intro K hK
      go_simp
      apply hK
      · rfl
      · conv => (lhs; whnf)
      · exact ⟨hwi.1, GWI.fixed hwi.2 ⟨fun h => absurd h (by decide), fun h => absurd h (by decide)⟩⟩
    simp only [put_lit, put_none]
    try dsimp only [List.set_cons_succ, List.set_cons_zero]
    apply ObligF.fixed
    case h =>
      intro S gh w1 hwi hSi hd hcl
      apply StepOk.intro
      intro K hK
      go_simp
      apply hK
      · rfl
      · conv => (lhs; whnf)
      · exact ⟨hwi.1, GWI.fixed hwi.2 ⟨fun h => absurd h (by decide), fun h => absurd h (by decide)⟩⟩
    simp only [put_lit, put_none]
    try dsimp only [List.set_cons_succ, List.set_cons_zero]
    apply ObligF.fixed
    case h =>
      intro S gh w1 hwi hSi hd hcl
      apply StepOk.intro
      intro K hK
      go_simp
      apply hK
      · rfl
      · conv => (lhs; whnf)
      · exact ⟨hwi.1, GWI.fixed hwi.2 ⟨fun h => absurd h (by decide), fun h => absurd h (by decide)⟩⟩
    simp only [put_lit, put_none]
    try dsimp only [List.set_cons_succ, List.set_cons_zero]
    apply ObligF.free
    case h =>
      intro S gh w1 hwi hSi hd hcl
      apply StepG.intro
      intro K hK
      go_simp
      refine (mem_Log (HM.out.same hwi.1) (by omega)).mono ?_
      rintro e w2 ⟨A2, c2, rfl, ha, hk⟩
      apply hK
      · rfl
      · exact ⟨Keep0.step hwi.1 hk, GWI.free (hwi.2.keep dl7_stable hk) ⟨fun _ => ⟨A2, c2, rfl, ha⟩, fun h => absurd h (by decide)⟩⟩
    simp only [put_lit, put_none]
    try dsimp only [List.set_cons_succ, List.set_cons_zero]
    apply ObligF.fixed
    case h =>
      intro S gh w1 hwi hSi hd hcl
      apply StepOk.intro
      intro K hK
      go_simp
      apply hK
      · rfl
      · conv => (lhs; whnf)
      · exact ⟨hwi.1, GWI.fixed hwi.2 ⟨fun h => absurd h (by decide), fun h => absurd h (by decide)⟩⟩
    simp only [put_lit, put_none]
    try dsimp only [List.set_cons_succ, List.set_cons_zero]
    apply ObligF.fixed
    case h =>
      intro S gh w1 hwi hSi hd hcl
      apply StepOk.intro
      intro K hK
      go_simp
      apply hK
      · rfl
      · conv => (lhs; whnf)
      · exact ⟨hwi.1, GWI.fixed hwi.2 ⟨fun h => absurd h (by decide), fun h => absurd h (by decide)⟩⟩
    simp only [put_lit, put_none]
    try dsimp only [List.set_cons_succ, List.set_cons_zero]
    apply ObligF.fixed
    case h =>
      intro S gh w1 hwi hSi hd hcl
      apply StepOk.intro
      intro K hK
      go_simp
      apply hK
      · rfl
      · conv => (lhs; whnf)
      · exact ⟨hwi.1, GWI.fixed hwi.2 ⟨fun h => absurd h (by decide), fun h => absurd h (by decide)⟩⟩
    simp only [put_lit, put_none]
    try dsimp only [List.set_cons_succ, List.set_cons_zero]
    apply ObligF.fixed
    case h =>
      intro S gh w1 hwi hSi hd hcl
      apply StepOk.intro
      intro K hK
      have qm := (hwi.1.blk HNB.out (fun h => h)).k2
      go_simp
      apply hK
      · rfl
      · conv => (lhs; whnf)
      · exact ⟨hwi.1, GWI.fixed hwi.2 ⟨fun h => absurd h (by decide), fun h => absurd h (by decide)⟩⟩
    simp only [put_lit, put_none]
    try dsimp only [List.set_cons_succ, List.set_cons_zero]
    apply ObligF.fixed
    case h =>
      intro S gh w1 hwi hSi hd hcl
      apply StepOk.intro
      intro K hK
      obtain ⟨A1, c1, e1, ha1⟩ := (hwi.2 10 (hd ⟨10, .data⟩ (by simp) rfl)).1 rfl
      rw [e1]
      go_simp
      refine (same_log A1 rla _ c1 rlc _ ha1 (HLA.out.keep hwi.1) (by omega)).mono ?_
      rintro e w2 ⟨rfl, hk⟩
      apply hK
      · rfl
      · conv => (lhs; whnf)
      · exact ⟨Keep0.step hwi.1 hk, GWI.fixed (hwi.2.keep dl7_stable hk) ⟨fun h => absurd h (by decide), fun h => absurd h (by decide)⟩⟩
    simp only [put_lit, put_none]
    try dsimp only [List.set_cons_succ, List.set_cons_zero]
    apply ObligF.fixed
    case h =>
      intro S gh w1 hwi hSi hd hcl
      apply StepOk.intro
      intro K hK
      go_simp
      apply hK
      · rfl
      · conv => (lhs; whnf)
      · exact ⟨hwi.1, GWI.fixed hwi.2 ⟨fun h => absurd h (by decide), fun h => absurd h (by decide)⟩⟩
    simp only [put_lit, put_none]
    try dsimp only [List.set_cons_succ, List.set_cons_zero]
    apply ObligF.fixed
    case h =>
      intro S gh w1 hwi hSi hd hcl
      apply StepOk.intro
      intro K hK
      go_simp
      apply hK
      · rfl
      · conv => (lhs; whnf)
      · exact ⟨hwi.1, GWI.fixed hwi.2 ⟨fun h => absurd h (by decide), fun h => absurd h (by decide)⟩⟩
    simp only [put_lit, put_none]
    try dsimp only [List.set_cons_succ, List.set_cons_zero]
    apply ObligF.fixed
    case h =>
      intro S gh w1 hwi hSi hd hcl
      apply StepOk.intro
      intro K hK
      go_simp
      apply hK
      · rfl
      · conv => (lhs; whnf)
      · exact ⟨hwi.1, GWI.fixed hwi.2 ⟨fun h => absurd h (by decide), fun h => absurd h (by decide)⟩⟩
    simp only [put_lit, put_none]
    try dsimp only [List.set_cons_succ, List.set_cons_zero]
    apply ObligF.fixed
    case h =>
      intro S gh w1 hwi hSi hd hcl
      apply StepOk.intro
      intro K hK
      go_simp
      apply hK
      · rfl
      · conv => (lhs; whnf)
      · exact ⟨hwi.1, GWI.fixed hwi.2 ⟨fun h => absurd h (by decide), fun h => absurd h (by decide)⟩⟩
    simp only [put_lit, put_none]
    try dsimp only [List.set_cons_succ, List.set_cons_zero]
    apply ObligF.fixed
    case h =>
      intro S gh w1 hwi hSi hd hcl
      apply StepOk.intro
      intro K hK
      go_simp
      refine (show Calls Try.prog 16 _ w1 (Ret (.agg #[i64 0, i64 an, .bool ax, i64 0]) w1) from by have h := count_Ans _ (HX.out.keep hwi.1 (fun _ _ h => h)); rw [HAN.out.1, HAN.out.2] at h; exact h).mono ?_
      rintro e w2 ⟨rfl, hk⟩
      apply hK
      · rfl
      · conv => (lhs; whnf)
      · exact ⟨Keep0.step hwi.1 hk, GWI.fixed (hwi.2.keep dl7_stable hk) ⟨fun h => absurd h (by decide), fun h => absurd h (by decide)⟩⟩
    simp only [put_lit, put_none]
    try dsimp only [List.set_cons_succ, List.set_cons_zero]
    apply ObligF.fixed
    case h =>
      intro S gh w1 hwi hSi hd hcl
      apply StepOk.intro
      intro K hK
      go_simp
      apply hK
      · rfl
      · conv => (lhs; whnf)
      · exact ⟨hwi.1, GWI.fixed hwi.2 ⟨fun h => absurd h (by decide), fun h => absurd h (by decide)⟩⟩
    simp only [put_lit, put_none]
    try dsimp only [List.set_cons_succ, List.set_cons_zero]
    apply ObligF.fixed
    case h =>
      intro S gh w1 hwi hSi hd hcl
      apply StepOk.intro
      intro K hK
      go_simp
      refine (show Calls Try.prog 22 _ w1 (Ret (.agg #[i64 0, i64 an, .bool ax, i64 0]) w1) from by have h := r7_Ans _ (HY.out.keep hwi.1 (fun _ _ h => h)); rw [HAN.out.1, HAN.out.2] at h; exact h).mono ?_
      rintro e w2 ⟨rfl, hk⟩
      apply hK
      · rfl
      · conv => (lhs; whnf)
      · exact ⟨Keep0.step hwi.1 hk, GWI.fixed (hwi.2.keep dl7_stable hk) ⟨fun h => absurd h (by decide), fun h => absurd h (by decide)⟩⟩
    simp only [put_lit, put_none]
    try dsimp only [List.set_cons_succ, List.set_cons_zero]
    apply ObligF.fixed
    case h =>
      intro S gh w1 hwi hSi hd hcl
      apply StepOk.intro
      intro K hK
      go_simp
      apply hK
      · rfl
      · conv => (lhs; whnf)
      · exact ⟨hwi.1, GWI.fixed hwi.2 ⟨fun h => absurd h (by decide), fun h => absurd h (by decide)⟩⟩
    simp only [put_lit, put_none]
    try dsimp only [List.set_cons_succ, List.set_cons_zero]
    apply ObligF.fixed
    case h =>
      intro S gh w1 hwi hSi hd hcl
      apply StepOk.intro
      intro K hK
      go_simp
      apply hK
      · rfl
      · conv => (lhs; whnf)
      · exact ⟨hwi.1, GWI.fixed hwi.2 ⟨fun h => absurd h (by decide), fun h => absurd h (by decide)⟩⟩
    simp only [put_lit, put_none]
    try dsimp only [List.set_cons_succ, List.set_cons_zero]
    exact ObligF.nil
  case h0 =>
    exact ⟨(Keep.refl _ _).drew, GWI.start _ _ _⟩
  case hend =>
    intro S gh wx hwi hall
    have hkx := hwi.1
    obtain ⟨w10, hw9⟩ : ∃ v, v = wx := ⟨_, rfl⟩
    rw [← hw9] at hkx
    rw [← hw9]
    have HS := hid (show St w [refO w.heap.size n pt.W pt.L, r7O b s false y pt, memO w.heap.size m pt.W pt.L, snO b s x pt] w10 from St.keep HS.out hkx)
    clear hwi hall hkx hw9 HM HN HLA HRG HNB HX HY HAN
    have hs := St.drop (show St w [snO b s x pt, refO w.heap.size n pt.W pt.L, r7O b s false y pt, memO w.heap.size m pt.W pt.L] w10 from (St.pick (show St w [refO w.heap.size n pt.W pt.L, r7O b s false y pt, memO w.heap.size m pt.W pt.L, snO b s x pt] w10 from by repeat (with_reducible first | exact HS.out | apply St.alloc | apply St.drewN | apply St.drew)) 3 (by simp)))
    clear HS
    have HS := hid hs
    clear hs
    have hs := St.drop (show St w [r7O b s false y pt, refO w.heap.size n pt.W pt.L, memO w.heap.size m pt.W pt.L] w10 from (St.pick (show St w [refO w.heap.size n pt.W pt.L, r7O b s false y pt, memO w.heap.size m pt.W pt.L] w10 from by repeat (with_reducible first | exact HS.out | apply St.alloc | apply St.drewN | apply St.drew)) 1 (by simp)))
    clear HS
    have HS := hid hs
    clear hs
    go_wp2_with fail
    refine Calls.mono (St.newx (q := fun p => pkO b p ⟨pt.W, pt.L, 0, [], 0, false, false⟩) (show St w [refO w.heap.size n pt.W pt.L, memO w.heap.size m pt.W pt.L] _ from (show St w [refO w.heap.size n pt.W pt.L, memO w.heap.size m pt.W pt.L] _ from by repeat (with_reducible first | exact HS.out | apply St.alloc | apply St.drewN | apply St.drew))) (pkO_New b _ pt.W pt.L)) ?_
    rintro e w11 ⟨p, rfl, hs⟩
    clear HS
    have HS := hid (show St w [pkO b p ⟨pt.W, pt.L, 0, [], 0, false, false⟩, refO w.heap.size n pt.W pt.L, memO w.heap.size m pt.W pt.L] w11 from hs)
    clear hs
    go_wp2_with fail
    refine Calls.mono (St.newx (q := fun q => r7O b 0 true q ⟨pt.W, pt.L, 0, [], 0, false, false⟩) (show St w [pkO b p ⟨pt.W, pt.L, 0, [], 0, false, false⟩, refO w.heap.size n pt.W pt.L, memO w.heap.size m pt.W pt.L] _ from (show St w [pkO b p ⟨pt.W, pt.L, 0, [], 0, false, false⟩, refO w.heap.size n pt.W pt.L, memO w.heap.size m pt.W pt.L] _ from by repeat (with_reducible first | exact HS.out | apply St.alloc | apply St.drewN | apply St.drew))) (r7O_NewP b _ pt.W pt.L)) ?_
    rintro e w12 ⟨q, rfl, hs⟩
    clear HS
    have HS := hid (show St w [r7O b 0 true q ⟨pt.W, pt.L, 0, [], 0, false, false⟩, pkO b p ⟨pt.W, pt.L, 0, [], 0, false, false⟩, refO w.heap.size n pt.W pt.L, memO w.heap.size m pt.W pt.L] w12 from hs)
    clear hs
    have hcp := nPlay_peek b WW.length K mo 0 ⟨pt.W, pt.L, 0, [], 0, false, false⟩ rfl
    obtain ⟨PG, hPG⟩ : ∃ PG, PG = playF (gStp b) nPk WW.length K mo 0 ⟨pt.W, pt.L, 0, [], 0, false, false⟩ := ⟨_, rfl⟩
    rw [← hPG] at hcp
    have HPG := hid hPG
    have hgi : GInv b (⟨pt.W, pt.L, 0, [], 0, false, false⟩ : SN) := ⟨by show b < pt.W.length; omega, fun _ => ⟨rfl, rfl⟩⟩
    clear hPG
    go_wp2_with fail
    refine Calls.mono (St.call (q := Ass.star (memO w.heap.size m PG.1.W PG.1.L) (pkO b p PG.1)) (St.pair (show St w [memO w.heap.size m pt.W pt.L, pkO b p ⟨pt.W, pt.L, 0, [], 0, false, false⟩, r7O b 0 true q ⟨pt.W, pt.L, 0, [], 0, false, false⟩, refO w.heap.size n pt.W pt.L] _ from (St.pick (St.pick (show St w [r7O b 0 true q ⟨pt.W, pt.L, 0, [], 0, false, false⟩, pkO b p ⟨pt.W, pt.L, 0, [], 0, false, false⟩, refO w.heap.size n pt.W pt.L, memO w.heap.size m pt.W pt.L] _ from by repeat (with_reducible first | exact HS.out | apply St.alloc | apply St.drewN | apply St.drew)) 1 (by simp)) 3 (by simp)))) (fun R hr hz => snP2 HPG.out hpw (pkO_Play (b := b) ⟨pt.W, pt.L, 0, [], 0, false, false⟩ K KA kb ko kc mo (by omega) (by show pt.L.length ≤ _; omega) (by omega) (by omega) (by show pt.W.length ≤ _; omega) (fun h => ⟨(hkb h).1, Nat.lt_of_lt_of_le (hkb h).2 HS.out.k.size, fun hr2 => by have := hz _ hr2; have := (hkb h).2; omega⟩) (fun i hi => kcells HS.out.k (fun h => (hkb h).2) HKC.out i hi) hr hgi))) ?_
    rintro e w13 ⟨⟨rfl, hq2⟩, hs⟩
    clear HS
    have HS := hid (show St w [memO w.heap.size m PG.1.W PG.1.L, pkO b p PG.1, r7O b 0 true q ⟨pt.W, pt.L, 0, [], 0, false, false⟩, refO w.heap.size n pt.W pt.L] w13 from St.part hs)
    clear hs
    go_wp2_with fail
    refine Calls.mono (St.call (q := Ass.star (refO w.heap.size n PG.1.W PG.1.L) (r7O b 0 true q PG.1)) (St.pair (show St w [refO w.heap.size n pt.W pt.L, r7O b 0 true q ⟨pt.W, pt.L, 0, [], 0, false, false⟩, memO w.heap.size m PG.1.W PG.1.L, pkO b p PG.1] _ from (St.pick (St.pick (show St w [memO w.heap.size m PG.1.W PG.1.L, pkO b p PG.1, r7O b 0 true q ⟨pt.W, pt.L, 0, [], 0, false, false⟩, refO w.heap.size n pt.W pt.L] _ from by repeat (with_reducible first | exact HS.out | apply St.alloc | apply St.drewN | apply St.drew)) 2 (by simp)) 3 (by simp)))) (fun R hr hz => snR2 HPG.out hpw (r7O_PlayP (b := b) ⟨pt.W, pt.L, 0, [], 0, false, false⟩ K KA kb ko kc mo (by omega) (by show pt.L.length ≤ _; omega) (by omega) (by omega) (by show pt.W.length ≤ _; omega) (fun h => ⟨(hkb h).1, Nat.lt_of_lt_of_le (hkb h).2 HS.out.k.size, fun hr2 => by have := hz _ hr2; have := (hkb h).2; omega⟩) (fun i hi => kcells HS.out.k (fun h => (hkb h).2) HKC.out i hi) hr hgi))) ?_
    rintro e w14 ⟨rfl, hs⟩
    clear HS
    have HS := hid (show St w [refO w.heap.size n PG.1.W PG.1.L, r7O b 0 true q PG.1, memO w.heap.size m PG.1.W PG.1.L, pkO b p PG.1] w14 from St.part hs)
    clear hs
    obtain ⟨ps, pn2, pb2⟩ := PG
    have hs := HS.out
    clear HS
    have HS := hid (show St w [refO w.heap.size n ps.W ps.L, r7O b 0 true q ps, memO w.heap.size m ps.W ps.L, pkO b p ps] w14 from hs)
    clear hs
    have hpw2 : ps.W.length = WW.length := hq2
    have hlg : ps.L.length + 0 = pt.L.length + pn2 := hcp.log
    have hle : pn2 ≤ 0 + mo := hcp.le
    have hl4 : ps.L.length ≤ 510 := by omega
    clear hlg hle hcp
    obtain ⟨_, ⟨ma, mlv, hm, _⟩, _⟩ := St.get (show St w [memO w.heap.size m ps.W ps.L, refO w.heap.size n ps.W ps.L, r7O b 0 true q ps, pkO b p ps] w14 from (St.pick (show St w [refO w.heap.size n ps.W ps.L, r7O b 0 true q ps, memO w.heap.size m ps.W ps.L, pkO b p ps] w14 from by repeat (with_reducible first | exact HS.out | apply St.alloc | apply St.drewN | apply St.drew)) 2 (by simp)))
    obtain ⟨_, ⟨nA, nc, nlv, hn, _⟩, _⟩ := St.get (show St w [refO w.heap.size n ps.W ps.L, r7O b 0 true q ps, memO w.heap.size m ps.W ps.L, pkO b p ps] w14 from (show St w [refO w.heap.size n ps.W ps.L, r7O b 0 true q ps, memO w.heap.size m ps.W ps.L, pkO b p ps] w14 from by repeat (with_reducible first | exact HS.out | apply St.alloc | apply St.drewN | apply St.drew)))
    have HM := hid hm
    have HN := hid hn
    obtain ⟨rla, rlc, rfl, hla⟩ := refLog7 hn
    obtain ⟨rg, rfl, hrg, _⟩ := ints_own hn.words (by omega) rfl
    have HLA := hid hla
    have HRG := hid hrg
    have HNB := hid hn.mem
    clear hm hn hla hrg
    obtain ⟨_, hx, _⟩ := St.get (show St w [pkO b p ps, refO w.heap.size n ps.W ps.L, r7O b 0 true q ps, memO w.heap.size m ps.W ps.L] w14 from (St.pick (show St w [refO w.heap.size n ps.W ps.L, r7O b 0 true q ps, memO w.heap.size m ps.W ps.L, pkO b p ps] w14 from by repeat (with_reducible first | exact HS.out | apply St.alloc | apply St.drewN | apply St.drew)) 3 (by simp)))
    obtain ⟨_, ⟨yA, hy7, _⟩, _⟩ := St.get (show St w [r7O b 0 true q ps, refO w.heap.size n ps.W ps.L, memO w.heap.size m ps.W ps.L, pkO b p ps] w14 from (St.pick (show St w [refO w.heap.size n ps.W ps.L, r7O b 0 true q ps, memO w.heap.size m ps.W ps.L, pkO b p ps] w14 from by repeat (with_reducible first | exact HS.out | apply St.alloc | apply St.drewN | apply St.drew)) 1 (by simp)))
    obtain ⟨an, han⟩ : ∃ an : Int, an = ps.n := ⟨_, rfl⟩
    obtain ⟨ax, hax⟩ : ∃ ax : Bool, ax = ps.ex := ⟨_, rfl⟩
    have HAN := hid (And.intro han.symm hax.symm)
    have HX := hid hx
    have HY := hid hy7
    clear hx hy7 han hax
    have HLW := hid hpw2
    have hlw : ps.W.length ≤ 22 := by omega
    have hlw0 : 0 < ps.W.length := by omega
    clear hpw2 hq2
    go_wp2_with fail
    apply wp_region_free (WI := fun S gh wx => Keep0 w14 wx ∧ GWI (dl7 20 29 ps.L ps.W) S gh wx) (by kernel_rfl) (by kernel_rfl)
    case hob =>
      apply ObligF.fixed
      case h =>
        intro S gh w1 hwi hSi hd hcl
        apply StepOk.intro
        intro K hK
        go_simp
        apply hK
        · rfl
        · conv => (lhs; whnf)
        · exact ⟨hwi.1, GWI.fixed hwi.2 ⟨fun h => absurd h (by decide), fun h => absurd h (by decide)⟩⟩
      simp only [put_lit, put_none]
      try dsimp only [List.set_cons_succ, List.set_cons_zero]
      apply ObligF.fixed
      case h =>
        intro S gh w1 hwi hSi hd hcl
        apply StepOk.intro
        intro K hK
        go_simp
        apply hK
        · rfl
        · conv => (lhs; whnf)
        · exact ⟨hwi.1, GWI.fixed hwi.2 ⟨fun h => absurd h (by decide), fun h => absurd h (by decide)⟩⟩
      simp only [put_lit, put_none]
      try dsimp only [List.set_cons_succ, List.set_cons_zero]
      apply ObligF.fixed
      case h =>
        intro S gh w1 hwi hSi hd hcl
        apply StepOk.intro
        intro K hK
        go_simp
        apply hK
        · rfl
        · conv => (lhs; whnf)
        · exact ⟨hwi.1, GWI.fixed hwi.2 ⟨fun h => absurd h (by decide), fun h => absurd h (by decide)⟩⟩
      simp only [put_lit, put_none]
      try dsimp only [List.set_cons_succ, List.set_cons_zero]
      apply ObligF.fixed
      case h =>
        intro S gh w1 hwi hSi hd hcl
        apply StepOk.intro
        intro K hK
        go_simp
        apply hK
        · rfl
        · conv => (lhs; whnf)
        · exact ⟨hwi.1, GWI.fixed hwi.2 ⟨fun h => absurd h (by decide), fun h => absurd h (by decide)⟩⟩
      simp only [put_lit, put_none]
      try dsimp only [List.set_cons_succ, List.set_cons_zero]
      apply ObligF.fixed
      case h =>
        intro S gh w1 hwi hSi hd hcl
        apply StepOk.intro
        intro K hK
        go_simp
        apply hK
        · rfl
        · conv => (lhs; whnf)
        · exact ⟨hwi.1, GWI.fixed hwi.2 ⟨fun h => absurd h (by decide), fun h => absurd h (by decide)⟩⟩
      simp only [put_lit, put_none]
      try dsimp only [List.set_cons_succ, List.set_cons_zero]
      apply ObligF.fixed
      case h =>
        intro S gh w1 hwi hSi hd hcl
        apply StepOk.intro
        intro K hK
        go_simp
        apply hK
        · rfl
        · conv => (lhs; whnf)
        · exact ⟨hwi.1, GWI.fixed hwi.2 ⟨fun h => absurd h (by decide), fun h => absurd h (by decide)⟩⟩
      simp only [put_lit, put_none]
      try dsimp only [List.set_cons_succ, List.set_cons_zero]
      apply ObligF.fixed
      case h =>
        intro S gh w1 hwi hSi hd hcl
        apply StepOk.intro
        intro K hK
        go_simp
        apply hK
        · rfl
        · conv => (lhs; whnf)
        · exact ⟨hwi.1, GWI.fixed hwi.2 ⟨fun h => absurd h (by decide), fun h => absurd h (by decide)⟩⟩
      simp only [put_lit, put_none]
      try dsimp only [List.set_cons_succ, List.set_cons_zero]
      apply ObligF.fixed
      case h =>
        intro S gh w1 hwi hSi hd hcl
        apply StepOk.intro
        intro K hK
        go_simp
        apply hK
        · rfl
        · conv => (lhs; whnf)
        · exact ⟨hwi.1, GWI.fixed hwi.2 ⟨fun h => absurd h (by decide), fun h => absurd h (by decide)⟩⟩
      simp only [put_lit, put_none]
      try dsimp only [List.set_cons_succ, List.set_cons_zero]
      apply ObligF.fixed
      case h =>
        intro S gh w1 hwi hSi hd hcl
        apply StepOk.intro
        intro K hK
        go_simp
        apply hK
        · rfl
        · conv => (lhs; whnf)
        · exact ⟨hwi.1, GWI.fixed hwi.2 ⟨fun h => absurd h (by decide), fun h => absurd h (by decide)⟩⟩
      simp only [put_lit, put_none]
      try dsimp only [List.set_cons_succ, List.set_cons_zero]
      apply ObligF.fixed
      case h =>
        intro S gh w1 hwi hSi hd hcl
        apply StepOk.intro
        intro K hK
        go_simp
        apply hK
        · rfl
        · conv => (lhs; whnf)
        · exact ⟨hwi.1, GWI.fixed hwi.2 ⟨fun h => absurd h (by decide), fun h => absurd h (by decide)⟩⟩
      simp only [put_lit, put_none]
      try dsimp only [List.set_cons_succ, List.set_cons_zero]
      apply ObligF.fixed
      case h =>
        intro S gh w1 hwi hSi hd hcl
        apply StepOk.intro
        intro K hK
        go_simp
        apply hK
        · rfl
        · conv => (lhs; whnf)
        · exact ⟨hwi.1, GWI.fixed hwi.2 ⟨fun h => absurd h (by decide), fun h => absurd h (by decide)⟩⟩
      simp only [put_lit, put_none]
      try dsimp only [List.set_cons_succ, List.set_cons_zero]
      apply ObligF.fixed
      case h =>
        intro S gh w1 hwi hSi hd hcl
        apply StepOk.intro
        intro K hK
        go_simp
        apply hK
        · rfl
        · conv => (lhs; whnf)
        · exact ⟨hwi.1, GWI.fixed hwi.2 ⟨fun h => absurd h (by decide), fun h => absurd h (by decide)⟩⟩
      simp only [put_lit, put_none]
      try dsimp only [List.set_cons_succ, List.set_cons_zero]
      apply ObligF.fixed
      case h =>
        intro S gh w1 hwi hSi hd hcl
        apply StepOk.intro
        intro K hK
        go_simp
        apply hK
        · rfl
        · conv => (lhs; whnf)
        · exact ⟨hwi.1, GWI.fixed hwi.2 ⟨fun h => absurd h (by decide), fun h => absurd h (by decide)⟩⟩
      simp only [put_lit, put_none]
      try dsimp only [List.set_cons_succ, List.set_cons_zero]
      apply ObligF.fixed
      case h =>
        intro S gh w1 hwi hSi hd hcl
        apply StepOk.intro
        intro K hK
        go_simp
        refine (show Calls Try.prog 16 _ w1 (Ret (.agg #[i64 0, i64 an, .bool ax, i64 0]) w1) from by have h := peek_Ans _ (HX.out.keep hwi.1 (fun _ _ h => h)); rw [HAN.out.1, HAN.out.2] at h; exact h).mono ?_
        rintro e w2 ⟨rfl, hk⟩
        apply hK
        · rfl
        · conv => (lhs; whnf)
        · exact ⟨Keep0.step hwi.1 hk, GWI.fixed (hwi.2.keep dl7_stable hk) ⟨fun h => absurd h (by decide), fun h => absurd h (by decide)⟩⟩
      simp only [put_lit, put_none]
      try dsimp only [List.set_cons_succ, List.set_cons_zero]
      apply ObligF.fixed
      case h =>
        intro S gh w1 hwi hSi hd hcl
        apply StepOk.intro
        intro K hK
        go_simp
        apply hK
        · rfl
        · conv => (lhs; whnf)
        · exact ⟨hwi.1, GWI.fixed hwi.2 ⟨fun h => absurd h (by decide), fun h => absurd h (by decide)⟩⟩
      simp only [put_lit, put_none]
      try dsimp only [List.set_cons_succ, List.set_cons_zero]
      apply ObligF.fixed
      case h =>
        intro S gh w1 hwi hSi hd hcl
        apply StepOk.intro
        intro K hK
        go_simp
        refine (show Calls Try.prog 22 _ w1 (Ret (.agg #[i64 0, i64 an, .bool ax, i64 0]) w1) from by have h := r7_Ans _ (HY.out.keep hwi.1 (fun _ _ h => h)); rw [HAN.out.1, HAN.out.2] at h; exact h).mono ?_
        rintro e w2 ⟨rfl, hk⟩
        apply hK
        · rfl
        · conv => (lhs; whnf)
        · exact ⟨Keep0.step hwi.1 hk, GWI.fixed (hwi.2.keep dl7_stable hk) ⟨fun h => absurd h (by decide), fun h => absurd h (by decide)⟩⟩
      simp only [put_lit, put_none]
      try dsimp only [List.set_cons_succ, List.set_cons_zero]
      apply ObligF.fixed
      case h =>
        intro S gh w1 hwi hSi hd hcl
        apply StepOk.intro
        intro K hK
        go_simp
        apply hK
        · rfl
        · conv => (lhs; whnf)
        · exact ⟨hwi.1, GWI.fixed hwi.2 ⟨fun h => absurd h (by decide), fun h => absurd h (by decide)⟩⟩
      simp only [put_lit, put_none]
      try dsimp only [List.set_cons_succ, List.set_cons_zero]
      apply ObligF.fixed
      case h =>
        intro S gh w1 hwi hSi hd hcl
        apply StepOk.intro
        intro K hK
        go_simp
        apply hK
        · rfl
        · conv => (lhs; whnf)
        · exact ⟨hwi.1, GWI.fixed hwi.2 ⟨fun h => absurd h (by decide), fun h => absurd h (by decide)⟩⟩
      simp only [put_lit, put_none]
      try dsimp only [List.set_cons_succ, List.set_cons_zero]
      apply ObligF.fixed
      case h =>
        intro S gh w1 hwi hSi hd hcl
        apply StepOk.intro
        intro K hK
        go_simp
        apply hK
        · rfl
        · conv => (lhs; whnf)
        · exact ⟨hwi.1, GWI.fixed hwi.2 ⟨fun h => absurd h (by decide), fun h => absurd h (by decide)⟩⟩
      simp only [put_lit, put_none]
      try dsimp only [List.set_cons_succ, List.set_cons_zero]
      apply ObligF.fixed
      case h =>
        intro S gh w1 hwi hSi hd hcl
        apply StepOk.intro
        intro K hK
        go_simp
        apply hK
        · rfl
        · conv => (lhs; whnf)
        · exact ⟨hwi.1, GWI.fixed hwi.2 ⟨fun h => absurd h (by decide), fun h => absurd h (by decide)⟩⟩
      simp only [put_lit, put_none]
      try dsimp only [List.set_cons_succ, List.set_cons_zero]
      apply ObligF.free
      case h =>
        intro S gh w1 hwi hSi hd hcl
        apply StepG.intro
        intro K hK
        go_simp
        refine (mem_Log (HM.out.same hwi.1) (by omega)).mono ?_
        rintro e w2 ⟨A2, c2, rfl, ha, hk⟩
        apply hK
        · rfl
        · exact ⟨Keep0.step hwi.1 hk, GWI.free (hwi.2.keep dl7_stable hk) ⟨fun _ => ⟨A2, c2, rfl, ha⟩, fun h => absurd h (by decide)⟩⟩
      simp only [put_lit, put_none]
      try dsimp only [List.set_cons_succ, List.set_cons_zero]
      apply ObligF.fixed
      case h =>
        intro S gh w1 hwi hSi hd hcl
        apply StepOk.intro
        intro K hK
        go_simp
        apply hK
        · rfl
        · conv => (lhs; whnf)
        · exact ⟨hwi.1, GWI.fixed hwi.2 ⟨fun h => absurd h (by decide), fun h => absurd h (by decide)⟩⟩
      simp only [put_lit, put_none]
      try dsimp only [List.set_cons_succ, List.set_cons_zero]
      apply ObligF.fixed
      case h =>
        intro S gh w1 hwi hSi hd hcl
        apply StepOk.intro
        intro K hK
        go_simp
        apply hK
        · rfl
        · conv => (lhs; whnf)
        · exact ⟨hwi.1, GWI.fixed hwi.2 ⟨fun h => absurd h (by decide), fun h => absurd h (by decide)⟩⟩
      simp only [put_lit, put_none]
      try dsimp only [List.set_cons_succ, List.set_cons_zero]
      apply ObligF.fixed
      case h =>
        intro S gh w1 hwi hSi hd hcl
        apply StepOk.intro
        intro K hK
        go_simp
        apply hK
        · rfl
        · conv => (lhs; whnf)
        · exact ⟨hwi.1, GWI.fixed hwi.2 ⟨fun h => absurd h (by decide), fun h => absurd h (by decide)⟩⟩
      simp only [put_lit, put_none]
      try dsimp only [List.set_cons_succ, List.set_cons_zero]
      apply ObligF.fixed
      case h =>
        intro S gh w1 hwi hSi hd hcl
        apply StepOk.intro
        intro K hK
        have qm := (hwi.1.blk HNB.out (fun h => h)).k2
        go_simp
        apply hK
        · rfl
        · conv => (lhs; whnf)
        · exact ⟨hwi.1, GWI.fixed hwi.2 ⟨fun h => absurd h (by decide), fun h => absurd h (by decide)⟩⟩
      simp only [put_lit, put_none]
      try dsimp only [List.set_cons_succ, List.set_cons_zero]
      apply ObligF.fixed
      case h =>
        intro S gh w1 hwi hSi hd hcl
        apply StepOk.intro
        intro K hK
        obtain ⟨A1, c1, e1, ha1⟩ := (hwi.2 20 (hd ⟨20, .data⟩ (by simp) rfl)).1 rfl
        rw [e1]
        go_simp
        refine (same_log A1 rla _ c1 rlc _ ha1 (HLA.out.keep hwi.1) (by omega)).mono ?_
        rintro e w2 ⟨rfl, hk⟩
        apply hK
        · rfl
        · conv => (lhs; whnf)
        · exact ⟨Keep0.step hwi.1 hk, GWI.fixed (hwi.2.keep dl7_stable hk) ⟨fun h => absurd h (by decide), fun h => absurd h (by decide)⟩⟩
      simp only [put_lit, put_none]
      try dsimp only [List.set_cons_succ, List.set_cons_zero]
      apply ObligF.fixed
      case h =>
        intro S gh w1 hwi hSi hd hcl
        apply StepOk.intro
        intro K hK
        go_simp
        apply hK
        · rfl
        · conv => (lhs; whnf)
        · exact ⟨hwi.1, GWI.fixed hwi.2 ⟨fun h => absurd h (by decide), fun h => absurd h (by decide)⟩⟩
      simp only [put_lit, put_none]
      try dsimp only [List.set_cons_succ, List.set_cons_zero]
      apply ObligF.fixed
      case h =>
        intro S gh w1 hwi hSi hd hcl
        apply StepOk.intro
        intro K hK
        go_simp
        apply hK
        · rfl
        · conv => (lhs; whnf)
        · exact ⟨hwi.1, GWI.fixed hwi.2 ⟨fun h => absurd h (by decide), fun h => absurd h (by decide)⟩⟩
      simp only [put_lit, put_none]
      try dsimp only [List.set_cons_succ, List.set_cons_zero]
      apply ObligF.fixed
      case h =>
        intro S gh w1 hwi hSi hd hcl
        apply StepOk.intro
        intro K hK
        go_simp
        apply hK
        · rfl
        · conv => (lhs; whnf)
        · exact ⟨hwi.1, GWI.fixed hwi.2 ⟨fun h => absurd h (by decide), fun h => absurd h (by decide)⟩⟩
      simp only [put_lit, put_none]
      try dsimp only [List.set_cons_succ, List.set_cons_zero]
      apply ObligF.free
      case h =>
        intro S gh w1 hwi hSi hd hcl
        apply StepG.intro
        intro K hK
        go_simp
        refine (mem_Words (HM.out.same hwi.1) (by omega)).mono ?_
        rintro e w2 ⟨g2, c2, rfl, hi, hk, _⟩
        apply hK
        · rfl
        · exact ⟨Keep0.step hwi.1 hk, GWI.free (hwi.2.keep dl7_stable hk) ⟨fun h => absurd h (by decide), fun _ => ⟨_, c2, rfl, hi.at_⟩⟩⟩
      simp only [put_lit, put_none]
      try dsimp only [List.set_cons_succ, List.set_cons_zero]
      apply ObligF.fixed
      case h =>
        intro S gh w1 hwi hSi hd hcl
        apply StepOk.intro
        intro K hK
        go_simp
        apply hK
        · rfl
        · conv => (lhs; whnf)
        · exact ⟨hwi.1, GWI.fixed hwi.2 ⟨fun h => absurd h (by decide), fun h => absurd h (by decide)⟩⟩
      simp only [put_lit, put_none]
      try dsimp only [List.set_cons_succ, List.set_cons_zero]
      apply ObligF.fixed
      case h =>
        intro S gh w1 hwi hSi hd hcl
        apply StepOk.intro
        intro K hK
        go_simp
        apply hK
        · rfl
        · conv => (lhs; whnf)
        · exact ⟨hwi.1, GWI.fixed hwi.2 ⟨fun h => absurd h (by decide), fun h => absurd h (by decide)⟩⟩
      simp only [put_lit, put_none]
      try dsimp only [List.set_cons_succ, List.set_cons_zero]
      apply ObligF.fixed
      case h =>
        intro S gh w1 hwi hSi hd hcl
        apply StepOk.intro
        intro K hK
        go_simp
        apply hK
        · rfl
        · conv => (lhs; whnf)
        · exact ⟨hwi.1, GWI.fixed hwi.2 ⟨fun h => absurd h (by decide), fun h => absurd h (by decide)⟩⟩
      simp only [put_lit, put_none]
      try dsimp only [List.set_cons_succ, List.set_cons_zero]
      apply ObligF.fixed
      case h =>
        intro S gh w1 hwi hSi hd hcl
        apply StepOk.intro
        intro K hK
        have qm := (hwi.1.blk HNB.out (fun h => h)).k2
        go_simp
        apply hK
        · rfl
        · conv => (lhs; whnf)
        · exact ⟨hwi.1, GWI.fixed hwi.2 ⟨fun h => absurd h (by decide), fun h => absurd h (by decide)⟩⟩
      simp only [put_lit, put_none]
      try dsimp only [List.set_cons_succ, List.set_cons_zero]
      apply ObligF.fixed
      case h =>
        intro S gh w1 hwi hSi hd hcl
        apply StepOk.intro
        intro K hK
        obtain ⟨A1, c1, e1, ha1⟩ := (hwi.2 29 (hd ⟨29, .data⟩ (by simp) rfl)).2 rfl
        rw [e1]
        go_simp
        refine (same_ints A1 _ ps.W c1 nc _ ha1 ((hwi.1.ints HRG.out (fun h => h)).at_) (by omega)).mono ?_
        rintro e w2 ⟨rfl, hk⟩
        apply hK
        · rfl
        · conv => (lhs; whnf)
        · exact ⟨Keep0.step hwi.1 hk, GWI.fixed (hwi.2.keep dl7_stable hk) ⟨fun h => absurd h (by decide), fun h => absurd h (by decide)⟩⟩
      simp only [put_lit, put_none]
      try dsimp only [List.set_cons_succ, List.set_cons_zero]
      apply ObligF.fixed
      case h =>
        intro S gh w1 hwi hSi hd hcl
        apply StepOk.intro
        intro K hK
        go_simp
        apply hK
        · rfl
        · conv => (lhs; whnf)
        · exact ⟨hwi.1, GWI.fixed hwi.2 ⟨fun h => absurd h (by decide), fun h => absurd h (by decide)⟩⟩
      simp only [put_lit, put_none]
      try dsimp only [List.set_cons_succ, List.set_cons_zero]
      apply ObligF.fixed
      case h =>
        intro S gh w1 hwi hSi hd hcl
        apply StepOk.intro
        intro K hK
        go_simp
        apply hK
        · rfl
        · conv => (lhs; whnf)
        · exact ⟨hwi.1, GWI.fixed hwi.2 ⟨fun h => absurd h (by decide), fun h => absurd h (by decide)⟩⟩
      simp only [put_lit, put_none]
      try dsimp only [List.set_cons_succ, List.set_cons_zero]
      exact ObligF.nil
    case h0 =>
      exact ⟨(Keep.refl _ _).drew, GWI.start _ _ _⟩
    case hend =>
      intro S gh wx hwi hall
      have HKX := hid hwi.1
      clear hwi hall
      go_wp2_with fail
      go_ret
      exact ⟨rfl, Keep0.step HS.out.k HKX.out⟩
end Go.Proofs.Ytlkniogapdhcpaa
