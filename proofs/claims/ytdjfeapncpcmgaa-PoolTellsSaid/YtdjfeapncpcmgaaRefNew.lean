/- breadlineref04.Own, breadlineref08.New. -/
import Derived.Test.YtdjfeapncpcmgaaRefPoolE
import Derived.Test.YtdjfeapncpcmgaaConf
import Derived.Deep.DeepCutAuto
namespace Go.Proofs.Ytdjfeapncpcmgaa
open Go.RowKit
set_option linter.unusedVariables false
set_option linter.unusedSimpArgs false
set_option maxRecDepth 100000

set_option maxHeartbeats 2000000 in
theorem ref_Own (t s g l r k : Int) (P L : List Int) (pb po lb lo pc lc : Nat) (w : World) (hp : P.length ≤ 1000) (hl : L.length ≤ 1000)
    (hP : ∀ i, i < P.length → w.cell? ⟨pb, po + i, none⟩ = some (i64 (rd P i))) (hL : ∀ i, i < L.length → w.cell? ⟨lb, lo + i, none⟩ = some (i64 (rd L i))) :
    Calls Try.prog 55 #[.agg #[i64 t, i64 s, i64 g, i64 l, i64 r, i64 k, .slice (some ⟨pb, po, none⟩) P.length pc, .slice (some ⟨lb, lo, none⟩) L.length lc]] w fun e w' => ∃ PA pc' LA lc', e = .returned (.agg #[i64 t, i64 s, i64 g, i64 l, i64 r, i64 k, .slice PA P.length pc', .slice LA L.length lc']) ∧ Keep0 w w' := by
  obtain ⟨i0, hti, hz0, hz1, hz2⟩ := info_parts info_int
  have HI := hid hti
  clear hti
  have HP := hid hP
  have HL := hid hL
  clear hP hL
  go_enter Try.func55, Try.ntmps55
  go_upto_region 2 with fail
  have HT1 : Hid (Blk (((w.alloc (.cells #[i64 t, i64 s, i64 g, i64 l, i64 r, i64 k, .slice (some ⟨pb, po, none⟩) P.length pc, .slice (some ⟨lb, lo, none⟩) L.length lc] 40)).alloc (.cells #[i64 0, i64 0, i64 0, i64 0, i64 0, i64 0, .slice none 0 0, .slice none 0 0] 40)).alloc (.cells #[i64 t, i64 s, i64 g, i64 l, i64 r, i64 k, .slice (some ⟨pb, po, none⟩) P.length pc, .slice (some ⟨lb, lo, none⟩) L.length lc] 40)) w.heap.size 40 [i64 t, i64 s, i64 g, i64 l, i64 r, i64 k, .slice (some ⟨pb, po, none⟩) P.length pc, .slice (some ⟨lb, lo, none⟩) L.length lc]) := hid (((Blk.made rfl rfl).alloc _).alloc _)
  have HT2 : Hid (Blk (((w.alloc (.cells #[i64 t, i64 s, i64 g, i64 l, i64 r, i64 k, .slice (some ⟨pb, po, none⟩) P.length pc, .slice (some ⟨lb, lo, none⟩) L.length lc] 40)).alloc (.cells #[i64 0, i64 0, i64 0, i64 0, i64 0, i64 0, .slice none 0 0, .slice none 0 0] 40)).alloc (.cells #[i64 t, i64 s, i64 g, i64 l, i64 r, i64 k, .slice (some ⟨pb, po, none⟩) P.length pc, .slice (some ⟨lb, lo, none⟩) L.length lc] 40)) (w.heap.size + 1) 40 [i64 0, i64 0, i64 0, i64 0, i64 0, i64 0, .slice none 0 0, .slice none 0 0]) := hid ((Blk.made (by simp) rfl).alloc _)
  have HT3 : Hid (Blk (((w.alloc (.cells #[i64 t, i64 s, i64 g, i64 l, i64 r, i64 k, .slice (some ⟨pb, po, none⟩) P.length pc, .slice (some ⟨lb, lo, none⟩) L.length lc] 40)).alloc (.cells #[i64 0, i64 0, i64 0, i64 0, i64 0, i64 0, .slice none 0 0, .slice none 0 0] 40)).alloc (.cells #[i64 t, i64 s, i64 g, i64 l, i64 r, i64 k, .slice (some ⟨pb, po, none⟩) P.length pc, .slice (some ⟨lb, lo, none⟩) L.length lc] 40)) (w.heap.size + 1 + 1) 40 [i64 t, i64 s, i64 g, i64 l, i64 r, i64 k, .slice (some ⟨pb, po, none⟩) P.length pc, .slice (some ⟨lb, lo, none⟩) L.length lc]) := hid (Blk.made (by simp) rfl)
  have HK1 : Hid (Keep0 w (((w.alloc (.cells #[i64 t, i64 s, i64 g, i64 l, i64 r, i64 k, .slice (some ⟨pb, po, none⟩) P.length pc, .slice (some ⟨lb, lo, none⟩) L.length lc] 40)).alloc (.cells #[i64 0, i64 0, i64 0, i64 0, i64 0, i64 0, .slice none 0 0, .slice none 0 0] 40)).alloc (.cells #[i64 t, i64 s, i64 g, i64 l, i64 r, i64 k, .slice (some ⟨pb, po, none⟩) P.length pc, .slice (some ⟨lb, lo, none⟩) L.length lc] 40))) := hid ((((Keep.refl _ _).alloc _).alloc _).alloc _)
  generalize ((w.alloc (.cells #[i64 t, i64 s, i64 g, i64 l, i64 r, i64 k, .slice (some ⟨pb, po, none⟩) P.length pc, .slice (some ⟨lb, lo, none⟩) L.length lc] 40)).alloc (.cells #[i64 0, i64 0, i64 0, i64 0, i64 0, i64 0, .slice none 0 0, .slice none 0 0] 40)).alloc (.cells #[i64 t, i64 s, i64 g, i64 l, i64 r, i64 k, .slice (some ⟨pb, po, none⟩) P.length pc, .slice (some ⟨lb, lo, none⟩) L.length lc] 40) = w1 at *
  have q1 := HT1.out.k8
  have q3 := HT3.out.k8
  go_upto_region 3 with (at_builtin; refine wpl_append_own ?a1 (.tmp 5) (.tmp 7) 33 ?a2 (w1.heap.size) 3 i0 ?z 1 8 ?a3 ?a4 ?a5 ?a6 ?a7 ?a8 ?a9 (.slice (some ⟨w1.heap.size, 0, none⟩) 0 0) (0) ([]) ?a10 ?hown (⟨pb, po, none⟩) (P.length) (pc) (ints P) ?a11 ?a12 ?hnews ?hone ?h63 ?hby ?hbase ?_; (case a1 => rfl); (case a2 => rfl); (case a3 => exact Try.underlying33); (case a4 => exact HI.out); (case a5 => exact hz0); (case a6 => exact hz1); (case a7 => exact hz2); (case a8 => rfl); (case a9 => decide); (case a10 => rfl); (case a11 => rfl); (case a12 => simp [ints]); (case hown => exact own_empty (Blk.made rfl rfl) (Nat.le_refl _)); (case h63 => unfold maxLen; omega); (case hby => omega); (case hnews => intro j u hj; have hjl : j < P.length := (by have := (List.getElem?_eq_some_iff.1 hj).1; simpa [ints] using this); have e1 : (⟨pb, po, none⟩ : Addr).add j = ⟨pb, po + j, none⟩ := addr_addo _ _ _; have h0 := HP.out j hjl; have hz := World.block_lt_of_cell? _ _ h0; rw [e1]; refine (cell_old (S := fun _ => False) (w := w) (HK1.out.alloc _) hz (fun h => h) _).trans ?_; rw [h0, ← hj, ints_get P j hjl]); (case hone => exact ints_one P); (case hbase => simp); intro A2 c2 w2 hown hg hsl; have HO := own_empty (w := w1.alloc (.cells #[] 3)) (B := w1.heap.size) (size := 1) (Blk.made (w := w1) (t := 3) (c := #[]) rfl rfl) (Nat.le_refl _); have T1 := grown_blk hg (HT1.out.alloc (.cells #[] 3)) (ownBlock_ne HO (HT1.out.alloc (.cells #[] 3)) (by decide)); have T2 := grown_blk hg (HT2.out.alloc (.cells #[] 3)) (ownBlock_ne HO (HT2.out.alloc (.cells #[] 3)) (by decide)); have T3 := grown_blk hg (HT3.out.alloc (.cells #[] 3)) (ownBlock_ne HO (HT3.out.alloc (.cells #[] 3)) (by decide)); have HKN := hid (Keep.grown (HK1.out.alloc (.cells #[] 3)) hg (fun k hk e => by have := HK1.out.size; simp [Value.ownBlock] at e; omega)); have hz3 := T3.k8; clear HO hown hg hsl HT1 HT2 HT3 HK1)
  have HT1 := hid (T1.other (a := ⟨w.heap.size + 1 + 1, 6, none⟩) (.slice A2 P.length c2) (by show w.heap.size + 1 + 1 ≠ w.heap.size; omega))
  have HT2 := hid (T2.other (a := ⟨w.heap.size + 1 + 1, 6, none⟩) (.slice A2 P.length c2) (by show w.heap.size + 1 + 1 ≠ w.heap.size + 1; omega))
  have HT3 := hid (T3.set 6 (.slice A2 P.length c2))
  have HK3 := hid (HKN.out.set ⟨w.heap.size + 1 + 1, 6, none⟩ (.slice A2 P.length c2) (fun h => absurd (show w.heap.size + 1 + 1 < w.heap.size from h) (by omega)))
  clear T1 T2 T3 HKN hz3 q1 q3
  generalize w2.setCell ⟨w.heap.size + 1 + 1, 6, none⟩ (.slice A2 P.length c2) = w4 at *
  have HT3 := hid (show Blk w4 (w.heap.size + 1 + 1) 40 [i64 t, i64 s, i64 g, i64 l, i64 r, i64 k, .slice A2 P.length c2, .slice (some ⟨lb, lo, none⟩) L.length lc] from HT3.out)
  have q1 := HT1.out.k8
  go_upto_region 4 with (at_builtin; refine wpl_append_own ?a1 (.tmp 10) (.tmp 12) 33 ?a2 (w4.heap.size) 3 i0 ?z 1 8 ?a3 ?a4 ?a5 ?a6 ?a7 ?a8 ?a9 (.slice (some ⟨w4.heap.size, 0, none⟩) 0 0) (0) ([]) ?a10 ?hown (⟨lb, lo, none⟩) (L.length) (lc) (ints L) ?a11 ?a12 ?hnews ?hone ?h63 ?hby ?hbase ?_; (case a1 => rfl); (case a2 => rfl); (case a3 => exact Try.underlying33); (case a4 => exact HI.out); (case a5 => exact hz0); (case a6 => exact hz1); (case a7 => exact hz2); (case a8 => rfl); (case a9 => decide); (case a10 => rfl); (case a11 => rfl); (case a12 => simp [ints]); (case hown => exact own_empty (Blk.made rfl rfl) (Nat.le_refl _)); (case h63 => unfold maxLen; omega); (case hby => omega); (case hnews => intro j u hj; have hjl : j < L.length := (by have := (List.getElem?_eq_some_iff.1 hj).1; simpa [ints] using this); have e1 : (⟨lb, lo, none⟩ : Addr).add j = ⟨lb, lo + j, none⟩ := addr_addo _ _ _; have h0 := HL.out j hjl; have hz := World.block_lt_of_cell? _ _ h0; rw [e1]; refine (cell_old (S := fun _ => False) (w := w) (HK3.out.alloc _) hz (fun h => h) _).trans ?_; rw [h0, ← hj, ints_get L j hjl]); (case hone => exact ints_one L); (case hbase => simp); intro A5 c5 w5 hown hg hsl; have HO := own_empty (w := w4.alloc (.cells #[] 3)) (B := w4.heap.size) (size := 1) (Blk.made (w := w4) (t := 3) (c := #[]) rfl rfl) (Nat.le_refl _); have T1 := grown_blk hg (HT1.out.alloc (.cells #[] 3)) (ownBlock_ne HO (HT1.out.alloc (.cells #[] 3)) (by decide)); have T2 := grown_blk hg (HT2.out.alloc (.cells #[] 3)) (ownBlock_ne HO (HT2.out.alloc (.cells #[] 3)) (by decide)); have T3 := grown_blk hg (HT3.out.alloc (.cells #[] 3)) (ownBlock_ne HO (HT3.out.alloc (.cells #[] 3)) (by decide)); have HKN := hid (Keep.grown (HK3.out.alloc (.cells #[] 3)) hg (fun k hk e => by have := HK3.out.size; simp [Value.ownBlock] at e; omega)); have hz3 := T3.k8; clear HO hown hg hsl HT1 HT2 HT3 HK3)
  have HT2 := hid (T2.other (a := ⟨w.heap.size + 1 + 1, 7, none⟩) (.slice A5 L.length c5) (by show w.heap.size + 1 + 1 ≠ w.heap.size + 1; omega))
  have HT3 := hid (T3.set 7 (.slice A5 L.length c5))
  have HK5 := hid (HKN.out.set ⟨w.heap.size + 1 + 1, 7, none⟩ (.slice A5 L.length c5) (fun h => absurd (show w.heap.size + 1 + 1 < w.heap.size from h) (by omega)))
  clear T1 T2 T3 HKN hz3 q1
  generalize w5.setCell ⟨w.heap.size + 1 + 1, 7, none⟩ (.slice A5 L.length c5) = w6 at *
  have q3 := (show Blk w6 (w.heap.size + 1 + 1) 40 [i64 t, i64 s, i64 g, i64 l, i64 r, i64 k, .slice A2 P.length c2, .slice A5 L.length c5] from HT3.out).k8
  have q2 := HT2.out.k8
  go_wp2_with fail
  have HF := hid (show Blk (((((((((w6).setCell ⟨w.heap.size + 1, 0, none⟩ (i64 t)).setCell ⟨w.heap.size + 1, 1, none⟩ (i64 s)).setCell ⟨w.heap.size + 1, 2, none⟩ (i64 g)).setCell ⟨w.heap.size + 1, 3, none⟩ (i64 l)).setCell ⟨w.heap.size + 1, 4, none⟩ (i64 r)).setCell ⟨w.heap.size + 1, 5, none⟩ (i64 k)).setCell ⟨w.heap.size + 1, 6, none⟩ (.slice A2 P.length c2)).setCell ⟨w.heap.size + 1, 7, none⟩ (.slice A5 L.length c5)) (w.heap.size + 1) 40 [i64 t, i64 s, i64 g, i64 l, i64 r, i64 k, .slice A2 P.length c2, .slice A5 L.length c5] from (((((((HT2.out.set 0 (i64 t)).set 1 (i64 s)).set 2 (i64 g)).set 3 (i64 l)).set 4 (i64 r)).set 5 (i64 k)).set 6 (.slice A2 P.length c2)).set 7 (.slice A5 L.length c5))
  have hn : ¬ (w.heap.size + 1 < w.heap.size) := by omega
  have HKF : Hid (Keep0 w (((((((((w6).setCell ⟨w.heap.size + 1, 0, none⟩ (i64 t)).setCell ⟨w.heap.size + 1, 1, none⟩ (i64 s)).setCell ⟨w.heap.size + 1, 2, none⟩ (i64 g)).setCell ⟨w.heap.size + 1, 3, none⟩ (i64 l)).setCell ⟨w.heap.size + 1, 4, none⟩ (i64 r)).setCell ⟨w.heap.size + 1, 5, none⟩ (i64 k)).setCell ⟨w.heap.size + 1, 6, none⟩ (.slice A2 P.length c2)).setCell ⟨w.heap.size + 1, 7, none⟩ (.slice A5 L.length c5))) := hid (((((((((HK5.out).set ⟨w.heap.size + 1, 0, none⟩ (i64 t) (fun h => hn h)).set ⟨w.heap.size + 1, 1, none⟩ (i64 s) (fun h => hn h)).set ⟨w.heap.size + 1, 2, none⟩ (i64 g) (fun h => hn h)).set ⟨w.heap.size + 1, 3, none⟩ (i64 l) (fun h => hn h)).set ⟨w.heap.size + 1, 4, none⟩ (i64 r) (fun h => hn h)).set ⟨w.heap.size + 1, 5, none⟩ (i64 k) (fun h => hn h)).set ⟨w.heap.size + 1, 6, none⟩ (.slice A2 P.length c2) (fun h => hn h)).set ⟨w.heap.size + 1, 7, none⟩ (.slice A5 L.length c5) (fun h => hn h))
  clear q2 q3
  generalize ((((((((w6).setCell ⟨w.heap.size + 1, 0, none⟩ (i64 t)).setCell ⟨w.heap.size + 1, 1, none⟩ (i64 s)).setCell ⟨w.heap.size + 1, 2, none⟩ (i64 g)).setCell ⟨w.heap.size + 1, 3, none⟩ (i64 l)).setCell ⟨w.heap.size + 1, 4, none⟩ (i64 r)).setCell ⟨w.heap.size + 1, 5, none⟩ (i64 k)).setCell ⟨w.heap.size + 1, 6, none⟩ (.slice A2 P.length c2)).setCell ⟨w.heap.size + 1, 7, none⟩ (.slice A5 L.length c5) = w7 at *
  have qF := HF.out.k8
  exact bodyPost_ret (v := .agg #[i64 t, i64 s, i64 g, i64 l, i64 r, i64 k, .slice A2 P.length c2, .slice A5 L.length c5]) (by simp [results, Try.results55, go_sem, qF]) rfl ⟨A2, c2, A5, c5, rfl, HKF.out⟩

set_option maxHeartbeats 2000000 in
theorem ref8_New (t s g l r k : Int) (P L : List Int) (pb po lb lo pc lc : Nat) (v n u : Int) (w : World) (hp : P.length ≤ 1000) (hl : L.length ≤ 1000)
    (hP : ∀ i, i < P.length → w.cell? ⟨pb, po + i, none⟩ = some (i64 (rd P i))) (hL : ∀ i, i < L.length → w.cell? ⟨lb, lo + i, none⟩ = some (i64 (rd L i))) :
    Calls Try.prog 31 #[.agg #[i64 t, i64 s, i64 g, i64 l, i64 r, i64 k, .slice (some ⟨pb, po, none⟩) P.length pc, .slice (some ⟨lb, lo, none⟩) L.length lc], i64 v, i64 n, i64 u] w fun e w' => ∃ y PA pc' LA lc', e = .returned (ptr y) ∧
      Blk w' y 106 [i64 t, i64 s, i64 g, i64 l, i64 r, i64 k, .slice PA P.length pc', .slice LA L.length lc', i64 v, i64 n, i64 u, i64 0, i64 0, i64 0, i64 0, i64 0, i64 0, .bool false, i64 0] ∧ Keep0 w w' ∧ w.heap.size ≤ y := by
  have HOW := hid (ref_Own t s g l r k P L pb po lb lo pc lc (w.alloc (.cells #[i64 t, i64 s, i64 g, i64 l, i64 r, i64 k, .slice (some ⟨pb, po, none⟩) P.length pc, .slice (some ⟨lb, lo, none⟩) L.length lc] 40)) hp hl (fun i hi => by rw [World.cell?_alloc_lt _ _ _ (World.block_lt_of_cell? _ _ (hP i hi))]; exact hP i hi) (fun i hi => by rw [World.cell?_alloc_lt _ _ _ (World.block_lt_of_cell? _ _ (hL i hi))]; exact hL i hi))
  have HK0 : Hid (Keep0 w (w.alloc (.cells #[i64 t, i64 s, i64 g, i64 l, i64 r, i64 k, .slice (some ⟨pb, po, none⟩) P.length pc, .slice (some ⟨lb, lo, none⟩) L.length lc] 40))) := hid ((Keep.refl _ _).alloc _)
  clear hP hL
  go_enter Try.func31, Try.ntmps31
  go_wp2_with fail
  refine HOW.out.mono ?_
  rintro e w1 ⟨PA, pc', LA, lc', rfl, hk⟩
  have HK1 : Hid (Keep0 w w1) := hid (Keep0.step HK0.out hk)
  clear hk
  go_wp2_with fail
  go_ret
  exact ⟨_, PA, pc', LA, lc', rfl, Blk.made rfl rfl, HK1.out.alloc _, HK1.out.size⟩
end Go.Proofs.Ytdjfeapncpcmgaa
