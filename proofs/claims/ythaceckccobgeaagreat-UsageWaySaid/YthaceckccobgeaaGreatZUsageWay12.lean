/- Contracts and plain laws for UsageWay, part 12: what the walk of the law leans on. -/
import Derived.RangeFuncNested
import Derived.RangeFuncBound
import Derived.RangeFuncCalls
import Derived.RangeFuncLeaves
import Derived.Shelf.Abstract
import Derived.Shelf.RegionOpen
import Derived.WalkKit
import Derived.OwnWalkIn
import Derived.TacticsInMore
import Derived.LoopNIn
import Derived.LoopIn
import Derived.Maps.AppendAt
import Derived.Laws.CopyOwn
import Derived.Deep.QuietTactic
import Derived.BigQuiet
import Derived.OrdersIn
import Derived.TacticsIn
import Derived.Test.YthaceckccobgeaaGreatZUsageWay2
import Derived.Test.YthaceckccobgeaaGreatZUsageWay3
import Derived.Test.YthaceckccobgeaaGreatZUsageWay4
import Derived.Test.YthaceckccobgeaaGreatZUsageWay5
namespace Go.Proofs.YthaceckccobgeaaGreat
open Go.RowKit Go.Shelf
set_option linter.unusedVariables false
set_option linter.unusedSimpArgs false
set_option maxRecDepth 100000
attribute [local go_sem] Oper.semAt_some
theorem wplIn_append_own {F : Fence} {n : Nat} {P : Program} {ops : Array Oper} {rest : List Oper} {o : Oper} {a : Act} {w : World} {Q : Exit → Act → World → Prop}
 (hgd : o.guard = none) (s x : Operand) (t : TypeId)
 (ho : o.op = .call { callee := .builtin .append, args := #[s, x], argTypes := #[t, t] })
 (base : Nat) (e : TypeId) (i : TypeInfo) (z : Value) (size bytes : Nat) (ht : P.underlying t = some (.slice e)) (hi : P.info? e = some i) (hz : i.zero = some z)
 (hsize : i.size = size) (hby : i.bytes = bytes) (hzs : z.cells.size = size) (hsz : 0 < size)
 (v : Value) (m0 : Nat) (xs : List Value) (hs : a.eval s = v) (hown : w.ownsRow base e size v m0 xs)
 (ad : Addr) (m c : Nat) (news : List Value) (hx : a.eval x = .slice (some ad) m c) (hl : news.length = m * size) (hnews : ∀ j u, news[j]? = some u → w.cell? (ad.add j) = some u) (h1 : ∀ u ∈ news, u.oneCell' = true)
 (h63 : m0 + m ≤ maxLen) (hbytes : (m0 + m) * bytes ≤ 140737488355328) (hbase : base ≤ w.heap.size)
 (h : ∀ A c' w', w'.ownsRow base e size (.slice A (m0 + m) c') (m0 + m) (xs ++ news) → w.grownBy w' v.ownBlock → (∀ k, (Value.slice A (m0 + m) c').ownBlock = some k → v.ownBlock = some k ∨ w.heap.size ≤ k) → wpListIn F n P ops Q rest (a.put o.dst (.slice A (m0 + m) c')) w') :
 wpListIn F n P ops Q (o :: rest) a w := by
 refine wpListIn_plain hgd fun K hK' => ?_
 obtain ⟨v', w', hr, h2, h3, h4⟩ := run_append_own (P := P) w base t o.type e i z size bytes ht hi hz hsize hby hzs hsz v m0 xs hown ad m c news hl hnews h1 h63 hbytes hbase
 have hnew : ∀ k, v'.ownBlock = some k → v.ownBlock = some k ∨ w.heap.size ≤ k := by
  intro k hk
  have hwas := hown
  rcases hwas.2 with ⟨rfl, rfl⟩ | ⟨g, cap, cur, rfl, _, hgg, hnc, _, hcs, _⟩
  · have hx0 : xs = [] := List.eq_nil_of_length_eq_zero (by simpa using hwas.1)
    subst hx0
    obtain ⟨v2, w2, hr2, h22, _, _⟩ := run_append_own (P := P) w w.heap.size t o.type e i z size bytes ht hi hz hsize hby hzs hsz _ 0 [] (World.ownsRow_nil _ _ _ _) ad m c news hl hnews h1 h63 hbytes (Nat.le_refl _)
    rw [hr] at hr2
    obtain ⟨rfl, rfl⟩ := Result.ok.inj hr2
    exact Or.inr (h22.lt k hk).1
  · subst hsize
    subst hby
    by_cases hroom : m0 + m ≤ cap
    · have hr2 := run_append_room (P := P) w t o.type e i ht hi g m0 cap cur hgg ad m c news hl hnews h1 hroom (by rw [hl, hcs, ← Nat.add_mul]; exact Nat.mul_le_mul_right _ hroom)
      rw [hr] at hr2
      obtain ⟨rfl, rfl⟩ := Result.ok.inj hr2
      exact Or.inl hk
    · have hr2 := run_append_grow (P := P) w t o.type e i z ht hi hz ⟨g, 0, none⟩ m0 cap xs hwas.1 (hwas.cells (g := g) rfl) ad m c news hl hnews (by omega) (by unfold maxLen at h63; omega) (growslice_fits (by omega) hbytes)
      rw [hr] at hr2
      obtain ⟨rfl, rfl⟩ := Result.ok.inj hr2
      simp [Value.ownBlock] at hk
      exact Or.inr (by omega)
 have hgo : K (a.put o.dst v') w' := by
  refine hK' _ _ ?_
  rcases h2.2 with ⟨rfl, hn⟩ | ⟨g, cap, cur, rfl, _⟩
  · have e0 : m0 + m = 0 := hn
    rw [e0] at h2
    have := h none 0 w' (by rw [e0]; exact h2) h3 (fun k hk => by simp [Value.ownBlock] at hk)
    rw [e0] at this
    exact this
  · exact h _ _ w' h2 h3 hnew
 unfold Oper.wpIn
 refine ⟨?_, ?_⟩
 · simp [Oper.about, ho, resolve, Target.leads, Sem.run_pure]
 · rw [Oper.semAt_plain F _ _ (by rw [ho]; intro c hc'; cases hc')]
   simp [execOp, ho, resolve, invoke, builtin, hs, hx, hr, Result.andThen]
   exact hgo
theorem own_alloc0 {w : World} {B : Nat} {e : TypeId} {size : Nat} {v : Value} {n : Nat} {xs : List Value} (h : w.ownsRow B e size v n xs) (o : Obj) : (w.alloc o).ownsRow B e size v n xs := ownsRow_keep (S := fun _ => False) h ((Keep.refl _ w).alloc o) (fun _ _ h => h)
def lst (i : Nat) : List Nat := (List.range i).map (fun j => 4 + j)
def lo (s : Nat) : Nat → List Nat
 | 0 => [1, 2, 0]
 | 1 => [1, 2, 0] ++ lst s ++ [1]
 | _ => [1, 2, 0] ++ lst s ++ [1] ++ lst s
theorem lst_succ (i : Nat) : lst (i + 1) = lst i ++ [4 + i] := by simp [lst, List.range_succ]
theorem lst_length (i : Nat) : (lst i).length = i := by simp [lst]
theorem lo_length (s r : Nat) (hr : r ≤ 2) : (lo s r).length = if r = 0 then 3 else if r = 1 then 4 + s else 4 + 2 * s := by
 have h : r = 0 ∨ r = 1 ∨ r = 2 := by omega
 rcases h with rfl | rfl | rfl <;> simp [lo, lst_length] <;> omega
def wl (b s : Nat) : List Nat := (lo s 2).map (fun j => b + j)
theorem len_snoc (l : List Nat) (x : Nat) : (l ++ [x]).length = l.length + 1 := by simp
theorem ints_snoc (l : List Nat) (x : Nat) : ints ((l ++ [x]).map Int.ofNat) = ints (l.map Int.ofNat) ++ [i64 ((x : Nat) : Int)] := by rw [List.map_append, ints, ints, List.map_append]; rfl
theorem wl_length (b s : Nat) : (wl b s).length = 4 + 2 * s := by simp [wl, lo_length]
def ordB (A : World) (Bo : Nat) : Option Nat := (A.cell? ⟨Bo, 0, none⟩).bind Value.ownBlock
structure SKp (Bo : Nat) (A B : World) : Prop where
 same : ∀ k o, A.heap[k]? = some o → o.isCells = true → k ≠ Bo → ordB A Bo ≠ some k → B.heap[k]? = some o
 row : ∀ j, ordB B Bo = some j → ordB A Bo = some j ∨ A.heap.size ≤ j
 size : A.heap.size ≤ B.heap.size
theorem SKp.refl (Bo : Nat) (A : World) : SKp Bo A A := ⟨fun _ _ h _ _ _ => h, fun _ h => Or.inl h, Nat.le_refl _⟩
theorem SKp.trans {Bo : Nat} {A B C : World} (h : SKp Bo A B) (k : SKp Bo B C) : SKp Bo A C := by
 refine ⟨fun j o h1 h2 h3 h4 => k.same j o (h.same j o h1 h2 h3 h4) h2 h3 (fun e => ?_), fun j e => ?_, Nat.le_trans h.size k.size⟩
 · rcases h.row j e with h5 | h5
   · exact h4 h5
   · have := (Array.getElem?_eq_some_iff.1 h1).1
     omega
 · rcases k.row j e with h5 | h5
   · exact h.row j h5
   · exact Or.inr (Nat.le_trans h.size h5)
theorem SKp.put {Bo : Nat} {W : World} {l : Nat} {o : Obj} (o' : Obj) (hl : Bo ≠ l) (ho : W.heap[l]? = some o) (hc : o.isCells = false) : SKp Bo W (W.putObj l o') := by
 have e0 : (W.putObj l o').cell? ⟨Bo, 0, none⟩ = W.cell? ⟨Bo, 0, none⟩ := World.cell?_of_block (World.putObj_heap_other hl)
 have e : ordB (W.putObj l o') Bo = ordB W Bo := by
  unfold ordB
  rw [e0]
 refine ⟨fun k o2 h1 h2 _ _ => ?_, fun j h => Or.inl (e ▸ h), (grownBy_putObj' W l o').size⟩
 have hne : k ≠ l := by
  rintro rfl
  rw [ho] at h1
  cases h1
  rw [hc] at h2
  cases h2
 exact (World.putObj_heap_other hne).trans h1
theorem SKp.blk {Bo b : Nat} {A B : World} {t : TypeId} {cs : List Value} (h : SKp Bo A B) (hb : Blk A b t cs) (h1 : b ≠ Bo) (h2 : ordB A Bo ≠ some b) : Blk B b t cs := h.same b _ hb rfl h1 h2
theorem SKp.ints {Bo g : Nat} {A B : World} {l : List Int} (h : SKp Bo A B) (hi : Ints A g l) (h1 : g ≠ Bo) (h2 : ordB A Bo ≠ some g) : Ints B g l := by
 obtain ⟨cur, a1, a2, a3⟩ := hi
 exact ⟨cur, h.same g _ a1 rfl h1 h2, a2, a3⟩
theorem lo_bd (s : Nat) (hs : s ≤ 8) : ∀ v ∈ lo s 2, v ≤ 11 := by
 intro v hv
 simp only [lo, List.mem_append, lst, List.mem_map, List.mem_range, List.mem_cons, List.not_mem_nil, or_false] at hv
 rcases hv with ((hv | ⟨j, hj, rfl⟩) | hv) | ⟨j, hj, rfl⟩ <;> omega
set_option maxHeartbeats 4000000 in
theorem snap_words1 (F : Fence) (n : Nat) (h7 : F.fn 122) (hro : F.round = none) (hn : 1 ≤ n) (l Bx x Bo : Nat) (b s : Nat) (r2 : List Value) (hs : s ≤ 8) (hb : b ≤ 1000000) (J Jx : List Nat → World → Prop) (W : World) (hJ : AbidesFrom W.heap.size J)
 (hY : ∀ pre v W, J pre W → pre.length < 4 + 2 * s → YieldAt F (n - 1) Tryz.prog l #[i64 ((v : Nat) : Int)] W fun e W' =>
  (e = .returned (.bool true) ∧ J (pre ++ [v]) W' ∧ SKp Bo W W') ∨ (e = .returned (.bool false) ∧ Jx (pre ++ [v]) W'))
 (hx : Blk W x 110 (i64 (b : Int) :: i64 (s : Int) :: r2)) (hbx : Blk W Bx 57 [ptr x]) (hx1 : x ≠ Bo) (hx2 : Bx ≠ Bo) (ho : W.cell? ⟨Bo, 0, none⟩ = some (.slice none 0 0)) (h0 : J [] W) :
 CallsIn F n Tryz.prog 122 #[.func (.yield l) #[] #[], ptr Bx] W fun e W' => (∃ v, e = .returned v) ∧
  ((∃ ys, ys = wl b s ∧ J ys W') ∨ (∃ pre, True ∧ Jx pre W')) := by
 obtain ⟨i0, hti, hz0, hz1, hz2⟩ := info_parts info_int
 have HI := hid hti
 clear hti
 have HX := hid hx
 have HBX := hid hbx
 have HO := hid ho
 have HJ := hid hJ
 have HY := hid hY
 have H0 := hid h0
 clear hx hbx ho hJ hY h0
 refine callsIn_of_wp Tryz.func122 rfl h7 ?_ hro
 simp only [Tryz.ntmps122, List.size_toArray, List.length_cons, List.length_nil, Nat.reduceAdd, Nat.reduceSub, Array.replicate_succ, Array.replicate_zero, List.push_toArray, List.append_toArray, List.nil_append, List.cons_append]
 gi_wp2
 have HR0 := hid (own_full (w := W.alloc (.cells #[i64 1, i64 2, i64 0] 3)) (B := W.heap.size) (g := W.heap.size) (W := [1, 2, 0]) (Blk.made rfl rfl) (Nat.le_refl _) (by simp))
 have HK0 := hid ((Keep.refl (fun _ => False) W).alloc (.cells #[i64 1, i64 2, i64 0] 3))
 generalize W.alloc (.cells #[i64 1, i64 2, i64 0] 3) = W0 at *
 gi_loopw [3, 8] (fun u v wr => ∃ r : Nat, r ≤ 2 ∧ v = .int .i64 r ∧ ∃ A1 c1, u = .slice A1 (lo s r).length c1 ∧ wr.ownsRow W.heap.size 3 1 (.slice A1 (lo s r).length c1) (lo s r).length (ints ((lo s r).map Int.ofNat)) ∧ Keep0 W wr) (fun _ v _ => 2 - (intOf v).toNat)
 case atStart => exact ⟨0, by omega, rfl, _, _, rfl, HR0.out, HK0.out⟩
 case round =>
  obtain ⟨r, hr, rfl, A1, c1, rfl, ho, hk⟩ := hrel
  have HOR := hid ho
  have HKR := hid hk
  have qx : wr.cell? ⟨x, 1, none⟩ = some (i64 (s : Int)) := (hk.blk HX.out (fun h => h)).cell 1
  have qb : wr.cell? ⟨Bx, 0, none⟩ = some (ptr x) := (hk.blk HBX.out (fun h => h)).cell 0
  clear ho hk HR0 HK0
  by_cases hlt : r < 2
  · have g0 : decide ((r : Int) < 2) = true := decide_eq_true (by omega)
    have hr01 : r = 0 ∨ r = 1 := by omega
    have HR01 := hid hr01
    clear hr01
    gi_wp2
    gi_loopw [3, 14] (fun u v wi => ∃ i : Nat, i ≤ s ∧ v = .int .i64 i ∧ ∃ A1 c1, u = .slice A1 (lo s r ++ lst i).length c1 ∧ wi.ownsRow W.heap.size 3 1 (.slice A1 (lo s r ++ lst i).length c1) (lo s r ++ lst i).length (ints ((lo s r ++ lst i).map Int.ofNat)) ∧ Keep0 W wi) (fun _ v _ => s - (intOf v).toNat)
    case atStart => exact ⟨0, by omega, rfl, A1, c1, by simp [lst], by simpa [lst] using HOR.out, HKR.out⟩
    case round =>
     obtain ⟨i, hi, rfl, A1, c1, rfl, ho, hk⟩ := hrel
     obtain ⟨wi, rfl⟩ : ∃ wi, wi = wr := ⟨_, rfl⟩
     have HOI := hid ho
     have HKI := hid hk
     have qx : wi.cell? ⟨x, 1, none⟩ = some (i64 (s : Int)) := (hk.blk HX.out (fun h => h)).cell 1
     have qb : wi.cell? ⟨Bx, 0, none⟩ = some (ptr x) := (hk.blk HBX.out (fun h => h)).cell 0
     clear ho hk
     by_cases hlt2 : i < s
     · have hlen9 : (lo s r ++ lst i).length ≤ 40 := by rw [List.length_append, lo_length s r (by omega), lst_length]; split <;> (try split) <;> omega
       have y1 : IntKind.i64.wrap (4 + (i : Int)) = ((4 + i : Nat) : Int) := by rw [show ((4 + i : Nat) : Int) = 4 + (i : Int) by push_cast; rfl]; exact IntWalk.i64_in _ (by omega)
       have HLS := hid (show lo s r ++ lst (i + 1) = (lo s r ++ lst i) ++ [4 + i] from by rw [lst_succ, List.append_assoc])
       gi_wp2_with (gi_at_builtin; refine wplIn_append_own ?a1 (.tmp 17) (.tmp 20) 22 ?a2 (W.heap.size) 3 i0 ?z 1 8 ?a3 ?a4 ?a5 ?a6 ?a7 ?a8 ?a9 (.slice A1 (lo s r ++ lst i).length c1) ((lo s r ++ lst i).length) (ints ((lo s r ++ lst i).map Int.ofNat)) ?a10 ?hown (⟨wi.heap.size, 0, none⟩) (1) (1) ([i64 ((4 + i : Nat) : Int)]) ?a11 ?a12 ?hnews ?hone ?h63 ?hby ?hbase ?_; (case a1 => rfl); (case a2 => rfl); (case a3 => exact Tryz.underlying22); (case a4 => exact HI.out); (case a5 => exact hz0); (case a6 => exact hz1); (case a7 => exact hz2); (case a8 => rfl); (case a9 => decide); (case a10 => rfl); (case a11 => rfl); (case a12 => rfl); (case hown => exact own_alloc0 HOI.out _); (case h63 => have := hlen9; unfold maxLen; omega); (case hby => have := hlen9; omega); (case hnews => exact news_at (Blk.made (by simp) rfl)); (case hone => simp [Value.oneCell']); (case hbase => have := HKI.out.size; simp; omega); intro A9 c9 w9 hown9 hg9 hsl9)
       have e1 : (lo s r ++ lst (i + 1)).length = (lo s r ++ lst i).length + 1 := by rw [HLS.out, len_snoc]
       have e2 : ints ((lo s r ++ lst (i + 1)).map Int.ofNat) = ints ((lo s r ++ lst i).map Int.ofNat) ++ [i64 ((4 + i : Nat) : Int)] := by rw [HLS.out, ints_snoc]
       have HO2 := hid (show w9.ownsRow W.heap.size 3 1 (.slice A9 (lo s r ++ lst (i + 1)).length c9) (lo s r ++ lst (i + 1)).length (ints ((lo s r ++ lst (i + 1)).map Int.ofNat)) from by rw [e1, e2]; exact hown9)
       have HKN : Hid (Keep0 W w9) := hid (Keep.grown (HKI.out.alloc (.cells #[i64 ((4 + i : Nat) : Int)] 3)) hg9 (fun k hk e => by have := (HOI.out.lt k e).1; omega))
       go_roundw
       case rel => exact ⟨i + 1, by omega, by go_num, A9, c9, by rw [e1, List.length_append], HO2.out, HKN.out⟩
       case measure => simp [intOf]; omega
     · obtain rfl : s = i := by omega
       have hlen9 : (lo s r ++ lst s).length ≤ 40 := by rw [List.length_append, lo_length s r (by omega), lst_length]; split <;> (try split) <;> omega
       have hln : (lo s r).length + (lst s).length = if r = 0 then 3 + s else 4 + 2 * s := by
        rw [lo_length s r (by omega), lst_length]
        split
        · rfl
        · rw [if_pos (by omega)]; omega
       have y1 : IntKind.i64.wrap (3 + (s : Int)) = 3 + (s : Int) := IntWalk.i64_in _ (by omega)
       have y2 : IntKind.i64.wrap ((r : Int) + 1) = (r : Int) + 1 := IntWalk.i64_in _ (by omega)
       rcases HR01.out with rfl | rfl
       · rw [if_pos rfl] at hln
         have hLL : (lo s 0 ++ lst s).length = 3 + s := by rw [List.length_append]; exact hln
         have HL1 := hid (show lo s 1 = (lo s 0 ++ lst s) ++ [1] from rfl)
         have hL2 : (lo s 1).length = 3 + s + 1 := by rw [HL1.out, len_snoc, hLL]
         have ho := HOI.out
         rw [hLL] at ho ⊢
         have HOJ := hid ho
         have HLL := hid hLL
         have HL2 := hid hL2
         have g1 : (((3 + s : Nat) : Int) == 3 + (s : Int)) = true := by simp
         clear ho hln hLL hL2 hlen9
         gi_wp2_with (gi_at_builtin; refine wplIn_append_own ?a1 (.tmp 31) (.tmp 32) 22 ?a2 (W.heap.size) 3 i0 ?z2 1 8 ?a3 ?a4 ?a5 ?a6 ?a7 ?a8 ?a9 (.slice A1 (3 + s) c1) ((3 + s)) (ints ((lo s 0 ++ lst s).map Int.ofNat)) ?a10 ?hown (⟨wi.heap.size, 0, none⟩) (1) (1) ([i64 1]) ?a11 ?a12 ?hnews ?hone ?h63 ?hby ?hbase ?_; (case a1 => rfl); (case a2 => rfl); (case a3 => exact Tryz.underlying22); (case a4 => exact HI.out); (case a5 => exact hz0); (case a6 => exact hz1); (case a7 => exact hz2); (case a8 => rfl); (case a9 => decide); (case a10 => rfl); (case a11 => rfl); (case a12 => rfl); (case hown => exact own_alloc0 HOJ.out _); (case h63 => unfold maxLen; omega); (case hby => omega); (case hnews => exact news_at (Blk.made (by simp) rfl)); (case hone => simp [Value.oneCell']); (case hbase => have := HKI.out.size; simp; omega); intro A9 c9 w9 hown9 hg9 hsl9)
         have e2 : ints ((lo s 1).map Int.ofNat) = ints ((lo s 0 ++ lst s).map Int.ofNat) ++ [i64 1] := by rw [HL1.out, ints_snoc]; rfl
         have HO2 := hid (show w9.ownsRow W.heap.size 3 1 (.slice A9 (lo s 1).length c9) (lo s 1).length (ints ((lo s 1).map Int.ofNat)) from by rw [HL2.out, e2]; exact hown9)
         have HKN : Hid (Keep0 W w9) := hid (Keep.grown (HKI.out.alloc (.cells #[i64 1] 3)) hg9 (fun k hk e => by have := (HOJ.out.lt k e).1; omega))
         go_roundw
         case rel => exact ⟨1, by omega, by go_num, A9, c9, by rw [HL2.out], HO2.out, HKN.out⟩
         case measure => simp [intOf]
       · rw [if_neg (by omega)] at hln
         have hLL : (lo s 1 ++ lst s).length = 4 + 2 * s := by rw [List.length_append]; exact hln
         have hL2 : (lo s 2).length = 4 + 2 * s := by rw [lo_length s 2 (by omega)]; rfl
         have ho := HOI.out
         rw [hLL] at ho ⊢
         have HOJ := hid ho
         have HL2 := hid hL2
         have g1 : (((4 + 2 * s : Nat) : Int) == 3 + (s : Int)) = false := by simp; omega
         clear ho hln hLL hL2 hlen9
         gi_wp2
         have HO2 := hid (show wi.ownsRow W.heap.size 3 1 (.slice A1 (lo s 2).length c1) (lo s 2).length (ints ((lo s 2).map Int.ofNat)) from by rw [HL2.out]; exact HOJ.out)
         go_roundw
         case rel => exact ⟨2, by omega, by go_num, A1, c1, by rw [HL2.out], HO2.out, HKI.out⟩
         case measure => simp [intOf]
  · obtain rfl : r = 2 := by omega
    have hl2 : (lo s 2).length = 4 + 2 * s := by rw [lo_length s 2 (by omega)]; rfl
    have ho := HOR.out
    rw [hl2] at ho ⊢
    obtain ⟨gl, rfl, hgl, hgz⟩ := ints_own ho (by omega) (by simp [hl2])
    have HGL := hid hgl
    have hbz : Bo < W.heap.size := World.block_lt_of_cell? _ _ HO.out
    have H1 := hid (HJ.out [] W wr none H0.out ⟨HKR.out.os, HKR.out.tape, HKR.out.output, HKR.out.size, fun k hk _ => HKR.out.block k hk (fun h => h)⟩ (fun r e => by cases e))
    have horb : ordB wr Bo = none := by
     unfold ordB
     rw [cell_old HKR.out hbz (fun h => h) _, HO.out]
     rfl
    have HX1 := hid (HKR.out.blk HX.out (fun h => h))
    have HBX1 := hid (HKR.out.blk HBX.out (fun h => h))
    obtain ⟨W1, rfl⟩ : ∃ W1 : World, W1 = wr := ⟨_, rfl⟩
    have HL2 := hid hl2
    clear ho hgl HOR HKR HJ H0 HO HX HBX hlt qx qb hr hl2
    rw [show ((2 : Nat) : Int) = 2 from rfl]
    gi_wp2
    gi_loopw [37] (fun v wr => ∃ k : Nat, k ≤ 4 + 2 * s ∧ v = .int .i64 k ∧ J ((wl b s).take k) wr ∧ SKp Bo W1 wr) (fun v _ => 4 + 2 * s - (intOf v).toNat)
    case atStart => exact ⟨0, Nat.zero_le _, rfl, H1.out, SKp.refl _ _⟩
    case round =>
     obtain ⟨k, hk, rfl, hJk, hkp⟩ := hrel
     have HJK := hid hJk
     have HKP := hid hkp
     have qx : wr.cell? ⟨x, 0, none⟩ = some (i64 (b : Int)) := (hkp.blk HX1.out hx1 (by rw [horb]; exact fun h => by cases h)).cell 0
     have qb : wr.cell? ⟨Bx, 0, none⟩ = some (ptr x) := (hkp.blk HBX1.out hx2 (by rw [horb]; exact fun h => by cases h)).cell 0
     have HGR := hid (hkp.ints HGL.out (by omega) (by rw [horb]; exact fun h => by cases h))
     clear hJk hkp
     by_cases hlt : k < 4 + 2 * s
     · have hkl : k < (lo s 2).length := by rw [HL2.out]; exact hlt
       have hkw : k < (wl b s).length := by rw [wl_length]; exact hlt
       have c1 := HGR.out.cell k (by simpa using hkl)
       have c2 := HGR.out.lt
       have hwk : (wl b s)[k] = b + (lo s 2)[k] := by simp [wl]
       have htk := List.take_succ_eq_append_getElem hkw
       rw [hwk] at htk
       have hrd : rd ((lo s 2).map Int.ofNat) k = (((lo s 2)[k] : Nat) : Int) := by simp [rd, hkl]
       rw [hrd] at c1
       have hbd := lo_bd s hs _ (List.getElem_mem hkl)
       have HTK := hid htk
       generalize (lo s 2)[k] = lk at *
       have y1 : IntKind.i64.wrap ((b : Int) + (lk : Int)) = (b : Int) + (lk : Int) := IntWalk.i64_in _ (by omega)
       obtain ⟨fn, tmps, assign, body, hy, hR⟩ := HY.out _ (b + lk) wr HJK.out (by rw [List.length_take, wl_length]; omega)
       rw [show ((b + lk : Nat) : Int) = (b : Int) + (lk : Int) from by push_cast; rfl] at hy
       have HR := hid hR
       clear hR hrd hwk htk
       gi_wp2
       refine HR.out.mono ?_
       rintro e W3 (⟨rfl, hJ3, hk3⟩ | ⟨rfl, hJx3⟩)
       · gi_wp2
         go_roundw
         case rel => exact ⟨k + 1, by omega, by go_num, by rw [HTK.out]; exact hJ3, HKP.out.trans hk3⟩
         case measure => simp [intOf]; omega
       · gi_wp2
         refine bodyPost_ret (results_none rfl _ _ _) rfl ?_
         exact ⟨⟨_, rfl⟩, .inr ⟨_, trivial, hJx3⟩⟩
     · obtain rfl : k = 4 + 2 * s := by omega
       gi_wp2
       go_end0
       exact ⟨⟨_, rfl⟩, .inl ⟨_, rfl, by have h := HJK.out; rw [List.take_of_length_le (by rw [wl_length]; exact Nat.le_refl _)] at h; exact h⟩⟩
theorem snap_words_in (F : Fence) (n : Nat) (h5 : F.fn 117) (hro : F.round = none) (x : Nat) (w : World) :
 CallsIn F n Tryz.prog 117 #[ptr x] w fun e w' => e = .returned (.func (.func 122) #[] #[ptr w.heap.size]) ∧ w' = w.alloc (.cells #[ptr x] 57) := by
 refine callsIn_of_wp Tryz.func117 rfl h5 ?_ hro
 simp only [Tryz.ntmps117, List.size_toArray, List.length_cons, List.length_nil, Nat.reduceAdd, Nat.reduceSub, Array.replicate_succ, Array.replicate_zero, List.push_toArray, List.append_toArray, List.nil_append, List.cons_append]
 gi_wp2
 go_ret
 exact ⟨rfl, rfl⟩
end Go.Proofs.YthaceckccobgeaaGreat


namespace Go.Proofs.YthaceckccobgeaaGreat
open Go.RowKit Go.Shelf
set_option linter.unusedVariables false
set_option linter.unusedSimpArgs false
set_option maxRecDepth 100000
attribute [local go_sem] Oper.semAt_some
theorem snap_stops (F : Fence) (n : Nat) (h7 : F.fn 122) (hro : F.round = none) (hn : 1 ≤ n) (Bx x Bo b s : Nat) (r2 : List Value) (hs : s ≤ 8) (hb : b ≤ 1000000) (w : World)
 (hx : Blk w x 110 (i64 (b : Int) :: i64 (s : Int) :: r2)) (hbx : Blk w Bx 57 [ptr x]) (hx1 : x ≠ Bo) (hx2 : Bx ≠ Bo) (ho : w.cell? ⟨Bo, 0, none⟩ = some (.slice none 0 0)) :
 SeqStopsK F n Tryz.prog 122 #[ptr Bx] (fun v : Nat => #[Value.int .i64 (v : Nat)]) (SKp Bo) (fun ys => ys = wl b s) (fun _ => True) (4 + 2 * s) w := fun l J Jx W hW hJ _ hY h0 =>
 snap_words1 F n h7 hro hn l Bx x Bo b s r2 hs hb J Jx W hJ hY ((hW.block x hx.lt).trans hx) ((hW.block Bx hbx.lt).trans hbx) hx1 hx2 ((hW.cell (p := ⟨Bo, 0, none⟩) (World.block_lt_of_cell? _ _ ho)).trans ho) h0
@[go_sem] theorem store_func7 (P : Program) (w : World) (a : Addr) (m : Mode) (G : FuncId) (cs : Array Value) : (store a (.func (.func G) #[] cs) m).run P w = stored P w a (.func (.func G) #[] cs) m := run_store P w a _ m rfl
def TryI (w : World) (x : Nat) (M : List Value) (pre : List Nat) (W : World) : Prop :=
 ∃ A c, Blk W (w.heap.size + 1) 22 [.slice A pre.length c] ∧ Blk W w.heap.size 57 [ptr x] ∧ Blk W x 110 M ∧ W.ownsRow (w.heap.size + 3) 3 1 (.slice A pre.length c) pre.length (ints (pre.map Int.ofNat)) ∧ w.heap.size + 3 ≤ W.heap.size ∧ Below w.heap.size w W
theorem keep_below7 {w w' : World} (h : Keep0 w w') : Below w.heap.size w w' := ⟨h.os, h.tape, h.output, h.size, fun k hk => h.block k hk (fun x => x)⟩
theorem own_cells7 {wx : World} {B : Nat} {v : Value} {n : Nat} {xs : List Value} (h : wx.ownsRow B 3 1 v n xs) : ∀ (j : Nat) (o : Obj), v.ownBlock = some j → wx.heap[j]? = some o → o.isCells = true := by
 intro j o e ho
 rcases h.2 with ⟨rfl, _⟩ | ⟨g, cap, cur, rfl, _, hgb, _⟩
 · simp [Value.ownBlock] at e
 · have e2 : g = j := by simpa [Value.ownBlock] using e
   rw [e2, ho] at hgb
   cases hgb
   rfl
set_option maxHeartbeats 4000000 in
theorem snap_try_in (b s x : Nat) (lf nx tk e1 e2 e3 e4 en : Value) (w : World) (hs : s ≤ 8) (hb : b ≤ 1000000) (hx : Blk w x 110 [i64 (b : Int), i64 (s : Int), lf, nx, tk, e1, e2, e3, e4, en]) :
 CallsIn Fence.wide 6 Tryz.prog 105 #[ptr x] w fun e w' => e = .returned (.tuple #[]) ∧ ∃ po pg px go oc, Blk w' x 110 [i64 (b : Int), i64 (s : Int), lf, .func (.func 118) #[] #[ptr po, ptr pg], .func (.func 119) #[] #[ptr pg, ptr po, ptr px], e1, e2, e3, e4, en] ∧ Blk w' po 22 [.slice (some ⟨go, 0, none⟩) (4 + 2 * s) oc] ∧ Ints w' go ((wl b s).map Int.ofNat) ∧
  Blk w' px 57 [ptr x] ∧ Blk w' pg 22 [.slice none 0 0] ∧ (w.heap.size ≤ po ∧ w.heap.size ≤ pg ∧ w.heap.size ≤ px ∧ w.heap.size ≤ go) ∧ po ≠ pg ∧ Keep (fun k => k = x) w w' := by
 have HX := hid hx
 clear hx
 refine callsIn_of_wp_marks Tryz.func105 rfl trivial ?_ rfl
 simp only [Tryz.ntmps105, List.size_toArray, List.length_cons, List.length_nil, Nat.reduceAdd, Nat.reduceSub, Array.replicate_succ, Array.replicate_zero, List.push_toArray, List.append_toArray, List.nil_append, List.cons_append]
 gi_wp2
 refine ⟨trivial, ?_⟩
 have hp1 : Blk ((w.alloc (.cells #[ptr x] 57)).alloc (.cells #[.slice none 0 0] 22)) w.heap.size 57 [ptr x] := (Blk.made rfl rfl).alloc _
 have hp2 : Blk ((w.alloc (.cells #[ptr x] 57)).alloc (.cells #[.slice none 0 0] 22)) (w.heap.size + 1) 22 [.slice none 0 0] := Blk.made (by simp) rfl
 have hk2 : Keep0 w ((w.alloc (.cells #[ptr x] 57)).alloc (.cells #[.slice none 0 0] 22)) := ((Keep.refl _ _).alloc _).alloc _
 have hs2 : ((w.alloc (.cells #[ptr x] 57)).alloc (.cells #[.slice none 0 0] 22)).heap.size = w.heap.size + 2 := by simp
 generalize (w.alloc (.cells #[ptr x] 57)).alloc (.cells #[.slice none 0 0] 22) = w2 at *
 refine (snap_words_in Fence.wide _ trivial rfl _ _).mono ?_
 rintro e w' ⟨rfl, rfl⟩
 rw [hs2]
 have hp3 := hp1.alloc (.cells #[ptr x] 57)
 have ho3 := hp2.alloc (.cells #[ptr x] 57)
 have hb3 : Blk (w2.alloc (.cells #[ptr x] 57)) (w.heap.size + 2) 57 [ptr x] := Blk.made (by rw [hs2]) rfl
 have hk3 := hk2.alloc (.cells #[ptr x] 57)
 have hs3 : (w2.alloc (.cells #[ptr x] 57)).heap.size = w.heap.size + 3 := by simp [hs2]
 clear hp1 hp2 hk2 hs2
 generalize w2.alloc (.cells #[ptr x] 57) = w3 at *
 have hx3 := hk3.blk HX.out (fun h => h)
 have hxl := HX.out.lt
 have hI : OwnFrom w3.heap.size (TryI w x [i64 (b : Int), i64 (s : Int), lf, nx, tk, e1, e2, e3, e4, en]) := by
  rintro pre W W' row ⟨A, c, hb, hp, hm, ho, hw5, hbel⟩ hg hr
  have hrow : ∀ b T cs, Blk W b T cs → some b ≠ row := by
   intro b T cs h e
   obtain ⟨_, o, h1, h2⟩ := hr b e.symm
   unfold Blk at h
   rw [h] at h1
   cases h1
   cases h2
  refine ⟨A, c, (hg.block _ hb.lt (hrow _ _ _ hb)).trans hb, (hg.block _ hp.lt (hrow _ _ _ hp)).trans hp, (hg.block _ hm.lt (hrow _ _ _ hm)).trans hm, ho.kept hg ?_, Nat.le_trans hw5 hg.size, hbel.grown hg hbel.size (fun k e => by have := (hr k e).1; omega)⟩
  rcases ho.2 with ⟨h1, _⟩ | ⟨g, cap, cur, h1, _, hgb, _⟩
  · exact .inl (by rw [h1]; rfl)
  · refine .inr fun e' => ?_
    rw [h1] at e'
    obtain ⟨_, o, h3, h4⟩ := hr g (by simpa [Value.ownBlock] using e'.symm)
    rw [hgb] at h3
    cases h3
    cases h4
 gi_wp2
 refine wpIn_rangeFunc_ownF rfl (by omega) (gf := 122) (lb := #[ptr (w.heap.size + 2)]) rfl trivial (enters_of Tryz.func122 (by kernel_rfl) rfl)
  (snap_stops Fence.wide _ trivial rfl (by omega) (w.heap.size + 2) x (w.heap.size + 1) b s _ hs hb w3 hx3 hb3 (by omega) (by omega) (ho3.cell 0)) (fun h k => h.trans k) (fun W l o o' hl h hc _ => SKp.put o' (by omega) h hc) (Below.refl _ _) (fun _ => rfl)
  (TryI w x [i64 (b : Int), i64 (s : Int), lf, nx, tk, e1, e2, e3, e4, en]) (fun _ _ _ => False) hI (fun _ _ _ _ _ hs _ _ => hs)
  ⟨none, 0, ho3, hp3, hx3, World.ownsRow_nil _ _ _ _, by omega, keep_below7 hk3⟩
  (fun k => { tmps := #[ptr x, ptr w.heap.size, ptr (w.heap.size + 1), i64 ((k : Nat) : Int), undef, ptr x, .func (.func 122) #[] #[ptr (w.heap.size + 2)], i64 ((k : Nat) : Int), undef, undef, undef, undef, undef, undef, undef, undef, undef, undef, undef, undef], defers := [] }) ?assign ?body ?done ?stop
 case assign =>
  intro lq x W Kp hKp
  gi_wp2
  exact hKp
 case stop =>
  rintro D c pre W _ _ h _
  exact h.elim
 case done =>
  rintro D ys W hD rfl ⟨A, c, hb4, hp, hm, ho, hw5, hbel⟩ hKD
  have HB := hid hb4
  have HP := hid hp
  have HM := hid hm
  have HO := hid ho
  have HBE := hid hbel
  have qp := hp.k1
  have qm := hm.k10
  have hwx : x < w.heap.size := hxl
  clear hb4 hp hm ho hbel hI hx3 hb3 hk3 ho3 hp3
  gi_wp2
  have FX := (((HM.out.set 3 (.func (.func 118) #[] #[ptr (w.heap.size + 1), ptr W.heap.size])).set 4 (.func (.func 119) #[] #[ptr W.heap.size, ptr (w.heap.size + 1), ptr w.heap.size])).alloc (.cells #[.slice none 0 0] 22))
  have FO := ((HB.out.other (a := ⟨x, 3, none⟩) (.func (.func 118) #[] #[ptr (w.heap.size + 1), ptr W.heap.size]) (by show x ≠ w.heap.size + 1; omega)).other (a := ⟨x, 4, none⟩) (.func (.func 119) #[] #[ptr W.heap.size, ptr (w.heap.size + 1), ptr w.heap.size]) (by show x ≠ w.heap.size + 1; omega)).alloc (.cells #[.slice none 0 0] 22)
  have FP := ((HP.out.other (a := ⟨x, 3, none⟩) (.func (.func 118) #[] #[ptr (w.heap.size + 1), ptr W.heap.size]) (by show x ≠ w.heap.size; omega)).other (a := ⟨x, 4, none⟩) (.func (.func 119) #[] #[ptr W.heap.size, ptr (w.heap.size + 1), ptr w.heap.size]) (by show x ≠ w.heap.size; omega)).alloc (.cells #[.slice none 0 0] 22)
  have hkx := (((Keep.refl (fun k => k = x) W).set ⟨x, 3, none⟩ (.func (.func 118) #[] #[ptr (w.heap.size + 1), ptr W.heap.size]) (fun _ => rfl)).set ⟨x, 4, none⟩ (.func (.func 119) #[] #[ptr W.heap.size, ptr (w.heap.size + 1), ptr w.heap.size]) (fun _ => rfl)).alloc (.cells #[.slice none 0 0] 22)
  have FG : Blk (((W.setCell ⟨x, 3, none⟩ (.func (.func 118) #[] #[ptr (w.heap.size + 1), ptr W.heap.size])).setCell ⟨x, 4, none⟩ (.func (.func 119) #[] #[ptr W.heap.size, ptr (w.heap.size + 1), ptr w.heap.size])).alloc (.cells #[.slice none 0 0] 22)) W.heap.size 22 [.slice none 0 0] := Blk.made (by simp) rfl
  have hl := wl_length b s
  have ho := HO.out
  rw [hl] at ho FO
  obtain ⟨go, rfl, hgo, hgz⟩ := ints_own ho (by omega) (by simp [hl])
  have FI := hkx.ints hgo (show ¬ go = x by omega)
  have hDl : D < W.heap.size := (Array.getElem?_eq_some_iff.1 hKD).1
  have hDx : ¬ D = x := by omega
  have hKD2 := (hkx.block D hDl hDx).trans hKD
  have hkw : Keep (fun k => k = x) w W := ⟨HBE.out.os, HBE.out.tape, HBE.out.output, HBE.out.size, fun k hk _ => HBE.out.block k hk⟩
  have hkf := hkw.trans hkx (fun _ _ h => h)
  clear HM HB HP HO HBE hkx hkw hKD qp qm
  generalize ((W.setCell ⟨x, 3, none⟩ (.func (.func 118) #[] #[ptr (w.heap.size + 1), ptr W.heap.size])).setCell ⟨x, 4, none⟩ (.func (.func 119) #[] #[ptr W.heap.size, ptr (w.heap.size + 1), ptr w.heap.size])).alloc (.cells #[.slice none 0 0] 22) = WF at *
  have hne : ∀ b T cs, Blk WF b T cs → b ≠ D := by
   intro b T cs h e
   subst e
   unfold Blk at h
   rw [h] at hKD2
   cases hKD2
  have hng : go ≠ D := by
   rintro rfl
   obtain ⟨cur, h1, _⟩ := FI
   rw [h1] at hKD2
   cases hKD2
  refine ⟨by simp, .inl ⟨_, _, rfl, run_takeDeferred hKD2, ?_⟩⟩
  have FI2 : Ints (WF.putObj D (.deferred none)) go ((wl b s).map Int.ofNat) := by
   obtain ⟨cur, h1, h2, h3⟩ := FI
   exact ⟨cur, (World.putObj_heap_other hng).trans h1, h2, h3⟩
  refine ⟨_, results_none rfl _ _ _, rfl, w.heap.size + 1, W.heap.size, w.heap.size, go, c, (World.putObj_heap_other (hne _ _ _ FX)).trans FX, (World.putObj_heap_other (hne _ _ _ FO)).trans FO, FI2, (World.putObj_heap_other (hne _ _ _ FP)).trans FP, (World.putObj_heap_other (hne _ _ _ FG)).trans FG, ⟨by omega, by omega, Nat.le_refl _, by omega⟩, by omega, ?_⟩
  have hg := grownBy_putObj' WF D (.deferred none)
  exact Keep.grown hkf hg (fun k hk e => by cases e; omega)
 case body =>
  rintro lq pre k W ⟨A, c, hb4, hp, hm, ho, hw5, hbel⟩ hlen
  have HB := hid hb4
  have HP := hid hp
  have HM := hid hm
  have HO := hid ho
  have HBE := hid hbel
  have qb := hb4.k1
  obtain ⟨i0, hti, hz0, hz1, hz2⟩ := info_parts info_int
  have HI := hid hti
  have hwx : x < w.heap.size := hxl
  clear hb4 hp hm ho hbel hI hx3 hb3 hk3 ho3 hp3 hti
  gi_wp2_with (gi_at_builtin; refine wplIn_append_own ?a1 (.tmp 8) (.tmp 10) 22 ?a2 ((w.heap.size + 3)) 3 i0 ?z 1 8 ?a3 ?a4 ?a5 ?a6 ?a7 ?a8 ?a9 (.slice A pre.length c) (pre.length) (ints (pre.map Int.ofNat)) ?a10 ?hown (⟨W.heap.size, 0, none⟩) (1) (1) ([i64 ((k : Nat) : Int)]) ?a11 ?a12 ?hnews ?hone ?h63 ?hby ?hbase ?_; (case a1 => rfl); (case a2 => rfl); (case a3 => exact Tryz.underlying22); (case a4 => exact HI.out); (case a5 => exact hz0); (case a6 => exact hz1); (case a7 => exact hz2); (case a8 => rfl); (case a9 => decide); (case a10 => rfl); (case a11 => rfl); (case a12 => rfl); (case hown => exact own_alloc0 HO.out _); (case h63 => unfold maxLen; omega); (case hby => omega); (case hnews => exact news_at (Blk.made (by simp) rfl)); (case hone => simp [Value.oneCell']); (case hbase => simp; omega); intro A9 c9 w9 hown9 hg9 hsl9; have TB := hid (grown_blk hg9 (HB.out.alloc (.cells #[i64 ((k : Nat) : Int)] 3)) (ownBlock_ne (own_alloc0 HO.out (.cells #[i64 ((k : Nat) : Int)] 3)) (HB.out.alloc _) (by decide))); have qb9 := TB.out.k1)
  have HOA := own_alloc0 HO.out (.cells #[i64 ((k : Nat) : Int)] 3)
  have TP := grown_blk hg9 (HP.out.alloc (.cells #[i64 ((k : Nat) : Int)] 3)) (ownBlock_ne HOA (HP.out.alloc _) (by decide))
  have TM := grown_blk hg9 (HM.out.alloc (.cells #[i64 ((k : Nat) : Int)] 3)) (ownBlock_ne HOA (HM.out.alloc _) (by decide))
  have hW9 : W.heap.size + 1 ≤ w9.heap.size := by have := hg9.size; simpa using this
  have hbel9 : Below w.heap.size W w9 := ((Below.refl w.heap.size W).alloc (by have := HBE.out.size; exact this) (.cells #[i64 ((k : Nat) : Int)] 3)).grown hg9 (by simp; have := HBE.out.size; omega) (fun j e => by have := (HOA.lt j e).1; omega)
  have hord : ordB W (w.heap.size + 1) = (Value.slice A pre.length c).ownBlock := by unfold ordB; rw [HB.out.cell 0]; rfl
  refine ⟨(KeepsOthers.alloc _ _).trans ((KeepsOthers.of_grownBy hg9 (own_cells7 HOA)).trans (KeepsOthers.setCell _ _ _)), ⟨?_, ?_, ?_⟩, A9, c9, ?_, ?_, ?_, ?_, ?_, ?_⟩
  · intro j o h1 h2 h3 h4
    have hlt : j < W.heap.size := (Array.getElem?_eq_some_iff.1 h1).1
    rw [hord] at h4
    refine (Below.heap_setCell _ _ _ _ (fun e => h3 (by first | exact e | exact e.symm))).trans ((hg9.block j (by simp; omega) (fun e => h4 (by first | exact e | exact e.symm))).trans ((Below.heap_alloc _ _ _ hlt).trans h1))
  · intro j e
    have TBS := TB.out.set 0 (.slice A9 (pre.length + 1) c9)
    unfold ordB at e
    rw [TBS.cell 0] at e
    rw [hord]
    rcases hsl9 j e with h | h
    · exact Or.inl h
    · exact Or.inr (by simp at h; omega)
  · simpa using (show W.heap.size ≤ w9.heap.size by omega)
  · simpa using TB.out.set 0 (.slice A9 (pre.length + 1) c9)
  · exact TP.other _ (by show w.heap.size + 1 ≠ w.heap.size; omega)
  · exact TM.other _ (by show w.heap.size + 1 ≠ x; omega)
  · have h := ownsRow_other hown9 (a := ⟨w.heap.size + 1, 0, none⟩) (.slice A9 (pre.length + 1) c9) (fun e => ownBlock_ne hown9 TB.out (by decide) e.symm)
    rw [len_snoc, ints_snoc]
    exact h
  · simp; omega
  · exact (HBE.out.trans hbel9).setCell (by show w.heap.size ≤ w.heap.size + 1; omega) _
theorem snap_try (b s x : Nat) (lf nx tk e1 e2 e3 e4 en : Value) (w : World) (hs : s ≤ 8) (hb : b ≤ 1000000) (hx : Blk w x 110 [i64 (b : Int), i64 (s : Int), lf, nx, tk, e1, e2, e3, e4, en]) :
 Calls Tryz.prog 105 #[ptr x] w fun e w' => e = .returned (.tuple #[]) ∧ ∃ po pg px go oc, Blk w' x 110 [i64 (b : Int), i64 (s : Int), lf, .func (.func 118) #[] #[ptr po, ptr pg], .func (.func 119) #[] #[ptr pg, ptr po, ptr px], e1, e2, e3, e4, en] ∧ Blk w' po 22 [.slice (some ⟨go, 0, none⟩) (4 + 2 * s) oc] ∧ Ints w' go ((wl b s).map Int.ofNat) ∧
  Blk w' px 57 [ptr x] ∧ Blk w' pg 22 [.slice none 0 0] ∧ (w.heap.size ≤ po ∧ w.heap.size ≤ pg ∧ w.heap.size ≤ px ∧ w.heap.size ≤ go) ∧ po ≠ pg ∧ Keep (fun k => k = x) w w' := callsIn_wide.1 (snap_try_in b s x lf nx tk e1 e2 e3 e4 en w hs hb hx)
end Go.Proofs.YthaceckccobgeaaGreat


namespace Go.Proofs.YthaceckccobgeaaGreat
open Go.RowKit
set_option linter.unusedVariables false
set_option linter.unusedSimpArgs false
def vw (s : Nat) (g : List Int) (o i : Nat) : Int := if i < s then rd g (o + i) else 0
def gsum (s : Nat) (g : List Int) : Nat → Int
 | 0 => rd g 2
 | i + 1 => wrap64 (gsum s g i + pVal (vw s g 3 i))
def viewB (s : Nat) (g : List Int) : Bool :=
 vw s g 3 0 == vw s g (4 + s) 0 && (vw s g 3 1 == vw s g (4 + s) 1 && (vw s g 3 2 == vw s g (4 + s) 2 && (vw s g 3 3 == vw s g (4 + s) 3 && (vw s g 3 4 == vw s g (4 + s) 4 && (vw s g 3 5 == vw s g (4 + s) 5 && (vw s g 3 6 == vw s g (4 + s) 6 && vw s g 3 7 == vw s g (4 + s) 7))))))
def calmB (s : Nat) (g : List Int) : Bool := rd g 0 == rd g 1 && (rd g 0 == rd g (3 + s) && viewB s g)
structure SN where
 W : List Int
 L : List Acc
 left : Int
 got : List Int
 n : Int
 ex : Bool
 fin : Bool
def clN (s : Nat) (t : SN) (g : List Int) : SN :=
 if calmB s g = true then { t with left := t.left - 1, got := g, n := gsum s g 8, ex := true, fin := true }
 else if t.left - 1 = 0 then { t with left := t.left - 1, got := g, n := rd g 2, ex := false, fin := true }
 else { t with left := t.left - 1, got := [] }
def wat (b s i : Nat) : Nat := (wl b s).getD i 0
def nNext (b s : Nat) (t : SN) : SN :=
 if t.fin = true then t
 else if t.got.length + 1 = 4 + 2 * s then clN s { t with L := t.L ++ [⟨1, (wat b s t.got.length : Nat), rd t.W (wat b s t.got.length), 0, false⟩] } (t.got ++ [rd t.W (wat b s t.got.length)])
 else { t with L := t.L ++ [⟨1, (wat b s t.got.length : Nat), rd t.W (wat b s t.got.length), 0, false⟩], got := t.got ++ [rd t.W (wat b s t.got.length)] }
def nStp (b s : Nat) (t : SN) : SN × Bool := (nNext b s t, (nNext b s t).fin)
def gNext (b : Nat) (t : SN) : SN :=
 if t.fin = true then t else { t with L := t.L ++ [⟨1, (b : Nat), rd t.W b, 0, false⟩], n := rd t.W b, fin := true }
def gStp (b : Nat) (t : SN) : SN × Bool := (gNext b t, (gNext b t).fin)
def nPk (t : SN) (i : Nat) (x : Int) : SN := { t with W := t.W.set i x }
structure NInv (b s : Nat) (t : SN) : Prop where
 ln : b + 4 + s ≤ t.W.length
 wl : t.W.length ≤ 10000
 s1 : 1 ≤ s ∧ s ≤ 8
 gb : t.fin = false → t.got.length < 4 + 2 * s
 lb : t.fin = false → 1 ≤ t.left
 lt : t.left ≤ 1000
 z : t.fin = false → t.n = 0 ∧ t.ex = false
theorem wat_mem {b s i : Nat} (h : i < 4 + 2 * s) : ∃ v ∈ lo s 2, wat b s i = b + v := by
 have hl : i < (wl b s).length := by rw [wl_length]; exact h
 have e : wat b s i = (wl b s)[i] := by unfold wat; simp [hl]
 have h2 := List.getElem_mem hl
 rw [← e] at h2
 simp only [wl, List.mem_map] at h2
 obtain ⟨v, h3, h4⟩ := h2
 exact ⟨v, h3, h4.symm⟩
theorem wat_bd {b s i : Nat} (h1 : 1 ≤ s) (h : i < 4 + 2 * s) : b ≤ wat b s i ∧ wat b s i < b + 4 + s := by
 obtain ⟨v, hv, e⟩ := wat_mem (b := b) h
 simp only [lo, List.mem_append, lst, List.mem_map, List.mem_range, List.mem_cons, List.not_mem_nil, or_false] at hv
 rw [e]
 rcases hv with ((hv | ⟨j, hj, rfl⟩) | hv) | ⟨j, hj, rfl⟩ <;> omega
theorem nNext_over {b s : Nat} {t : SN} (h : t.fin = true) : nNext b s t = t := by unfold nNext; rw [if_pos h]
theorem gNext_over {b : Nat} {t : SN} (h : t.fin = true) : gNext b t = t := by unfold gNext; rw [if_pos h]
theorem clN_W (s : Nat) (t : SN) (g : List Int) : (clN s t g).W = t.W ∧ (clN s t g).L = t.L := by
 unfold clN
 split
 · exact ⟨rfl, rfl⟩
 · split <;> exact ⟨rfl, rfl⟩
theorem nNext_W (b s : Nat) (t : SN) : (nNext b s t).W = t.W := by
 unfold nNext
 split
 · rfl
 · split
   · rw [(clN_W _ _ _).1]
   · rfl
theorem nNext_L {b s : Nat} {t : SN} (h : t.fin = false) : (nNext b s t).L = t.L ++ [⟨1, (wat b s t.got.length : Nat), rd t.W (wat b s t.got.length), 0, false⟩] := by
 unfold nNext
 rw [if_neg (by rw [h]; decide)]
 split
 · rw [(clN_W _ _ _).2]
 · rfl
theorem NInv.poke {b s : Nat} {t : SN} (h : NInv b s t) (i : Nat) (x : Int) : NInv b s (nPk t i x) :=
 ⟨by simpa [nPk] using h.ln, by simpa [nPk] using h.wl, h.s1, h.gb, h.lb, h.lt, h.z⟩
theorem NInv.step {b s : Nat} {t : SN} (h : NInv b s t) : NInv b s (nNext b s t) := by
 by_cases hf : t.fin = true
 · rw [nNext_over hf]; exact h
 · have hf' : t.fin = false := by simpa using hf
   have hg := h.gb hf'
   have hl := h.lb hf'
   have hlt := h.lt
   have hz := h.z hf'
   unfold nNext
   rw [if_neg hf]
   split
   · unfold clN
     split
     · exact ⟨h.ln, h.wl, h.s1, fun e => (by cases e), fun e => (by cases e), by show t.left - 1 ≤ 1000; omega, fun e => (by cases e)⟩
     · split
       · exact ⟨h.ln, h.wl, h.s1, fun e => (by cases e), fun e => (by cases e), by show t.left - 1 ≤ 1000; omega, fun e => (by cases e)⟩
       · rename_i h0
         have h0' : ¬ t.left - 1 = 0 := h0
         exact ⟨h.ln, h.wl, h.s1, fun _ => (by show 0 < 4 + 2 * s; omega), fun _ => by show 1 ≤ t.left - 1; omega, by show t.left - 1 ≤ 1000; omega, fun _ => hz⟩
   · refine ⟨h.ln, h.wl, h.s1, fun _ => ?_, fun _ => hl, hlt, fun _ => hz⟩
     show (t.got ++ [rd t.W (wat b s t.got.length)]).length < 4 + 2 * s
     rw [List.length_append, List.length_singleton]
     omega
theorem NInv.start {b s : Nat} {W : List Int} {L : List Acc} {r : Int} (ln : b + 4 + s ≤ W.length) (wl : W.length ≤ 10000) (s1 : 1 ≤ s ∧ s ≤ 8) (hr : 1 ≤ r ∧ r ≤ 1000) : NInv b s ⟨W, L, r, [], 0, false, false⟩ :=
 ⟨ln, wl, s1, fun _ => (by show 0 < 4 + 2 * s; omega), fun _ => hr.1, hr.2, fun _ => ⟨rfl, rfl⟩⟩
theorem view8 (f : Nat → Int) (s : Nat) (h : s ≤ 8) : splice (List.replicate 8 (i64 0)) 0 ((List.range s).map (fun i => i64 (f i))) = [i64 (if 0 < s then f 0 else 0), i64 (if 1 < s then f 1 else 0), i64 (if 2 < s then f 2 else 0), i64 (if 3 < s then f 3 else 0), i64 (if 4 < s then f 4 else 0), i64 (if 5 < s then f 5 else 0), i64 (if 6 < s then f 6 else 0), i64 (if 7 < s then f 7 else 0)] := by
 have hs : s = 0 ∨ s = 1 ∨ s = 2 ∨ s = 3 ∨ s = 4 ∨ s = 5 ∨ s = 6 ∨ s = 7 ∨ s = 8 := by omega
 rcases hs with rfl | rfl | rfl | rfl | rfl | rfl | rfl | rfl | rfl <;> simp [splice, List.range_succ, List.replicate]
end Go.Proofs.YthaceckccobgeaaGreat


namespace Go.Proofs.YthaceckccobgeaaGreat
open Go.RowKit
set_option linter.unusedVariables false
set_option linter.unusedSimpArgs false
set_option maxRecDepth 100000
set_option maxHeartbeats 2000000 in
@[go_sem] theorem view_eq (a0 a1 a2 a3 a4 a5 a6 a7 d0 d1 d2 d3 d4 d5 d6 d7 : Int) (w : World) : (Op.equalIn 10000 142 (.agg #[i64 a0, i64 a1, i64 a2, i64 a3, i64 a4, i64 a5, i64 a6, i64 a7]) (.agg #[i64 d0, i64 d1, i64 d2, i64 d3, i64 d4, i64 d5, i64 d6, i64 d7])).run Tryz.prog w = .ok (a0 == d0 && (a1 == d1 && (a2 == d2 && (a3 == d3 && (a4 == d4 && (a5 == d5 && (a6 == d6 && a7 == d7))))))) w := by
 have u3 := Tryz.underlying3
 rw [show (10000 : Nat) = 9999 + 1 from rfl, Op.equalIn]
 simp only [Sem.run_bind, run_underlying Tryz.underlying142, Result.andThen_ok]
 simp only [Std.Legacy.Range.forIn_eq_forIn_range', Std.Legacy.Range.size, Nat.sub_zero, Nat.add_sub_cancel, Nat.div_one, List.range'_succ, List.range'_zero, List.forIn_cons, List.forIn_nil]
 go_simp
 by_cases h0 : a0 = d0
 case neg => simp [h0]
 by_cases h1 : a1 = d1
 case neg => simp [h0, h1]
 by_cases h2 : a2 = d2
 case neg => simp [h0, h1, h2]
 by_cases h3 : a3 = d3
 case neg => simp [h0, h1, h2, h3]
 by_cases h4 : a4 = d4
 case neg => simp [h0, h1, h2, h3, h4]
 by_cases h5 : a5 = d5
 case neg => simp [h0, h1, h2, h3, h4, h5]
 by_cases h6 : a6 = d6
 case neg => simp [h0, h1, h2, h3, h4, h5, h6]
 by_cases h7 : a7 = d7
 case neg => simp [h0, h1, h2, h3, h4, h5, h6, h7]
 simp [h0, h1, h2, h3, h4, h5, h6, h7]
@[go_sem] theorem view_ix0 (a0 a1 a2 a3 a4 a5 a6 a7 : Int) (w : World) : (Instr.index 142 (.agg #[i64 a0, i64 a1, i64 a2, i64 a3, i64 a4, i64 a5, i64 a6, i64 a7]) (.int .i64 0)).run Tryz.prog w = .ok (i64 a0) w := by kernel_rfl
@[go_sem] theorem view_ix1 (a0 a1 a2 a3 a4 a5 a6 a7 : Int) (w : World) : (Instr.index 142 (.agg #[i64 a0, i64 a1, i64 a2, i64 a3, i64 a4, i64 a5, i64 a6, i64 a7]) (.int .i64 1)).run Tryz.prog w = .ok (i64 a1) w := by kernel_rfl
@[go_sem] theorem view_ix2 (a0 a1 a2 a3 a4 a5 a6 a7 : Int) (w : World) : (Instr.index 142 (.agg #[i64 a0, i64 a1, i64 a2, i64 a3, i64 a4, i64 a5, i64 a6, i64 a7]) (.int .i64 2)).run Tryz.prog w = .ok (i64 a2) w := by kernel_rfl
@[go_sem] theorem view_ix3 (a0 a1 a2 a3 a4 a5 a6 a7 : Int) (w : World) : (Instr.index 142 (.agg #[i64 a0, i64 a1, i64 a2, i64 a3, i64 a4, i64 a5, i64 a6, i64 a7]) (.int .i64 3)).run Tryz.prog w = .ok (i64 a3) w := by kernel_rfl
@[go_sem] theorem view_ix4 (a0 a1 a2 a3 a4 a5 a6 a7 : Int) (w : World) : (Instr.index 142 (.agg #[i64 a0, i64 a1, i64 a2, i64 a3, i64 a4, i64 a5, i64 a6, i64 a7]) (.int .i64 4)).run Tryz.prog w = .ok (i64 a4) w := by kernel_rfl
@[go_sem] theorem view_ix5 (a0 a1 a2 a3 a4 a5 a6 a7 : Int) (w : World) : (Instr.index 142 (.agg #[i64 a0, i64 a1, i64 a2, i64 a3, i64 a4, i64 a5, i64 a6, i64 a7]) (.int .i64 5)).run Tryz.prog w = .ok (i64 a5) w := by kernel_rfl
@[go_sem] theorem view_ix6 (a0 a1 a2 a3 a4 a5 a6 a7 : Int) (w : World) : (Instr.index 142 (.agg #[i64 a0, i64 a1, i64 a2, i64 a3, i64 a4, i64 a5, i64 a6, i64 a7]) (.int .i64 6)).run Tryz.prog w = .ok (i64 a6) w := by kernel_rfl
@[go_sem] theorem view_ix7 (a0 a1 a2 a3 a4 a5 a6 a7 : Int) (w : World) : (Instr.index 142 (.agg #[i64 a0, i64 a1, i64 a2, i64 a3, i64 a4, i64 a5, i64 a6, i64 a7]) (.int .i64 7)).run Tryz.prog w = .ok (i64 a7) w := by kernel_rfl
theorem view_ix (AI : Nat → Int) (i : Nat) (h : i < 8) (w : World) : (Instr.index 142 (.agg #[i64 (AI 0), i64 (AI 1), i64 (AI 2), i64 (AI 3), i64 (AI 4), i64 (AI 5), i64 (AI 6), i64 (AI 7)]) (.int .i64 (i : Int))).run Tryz.prog w = .ok (i64 (AI i)) w := by
 have hi8 : i = 0 ∨ i = 1 ∨ i = 2 ∨ i = 3 ∨ i = 4 ∨ i = 5 ∨ i = 6 ∨ i = 7 := by omega
 rcases hi8 with rfl | rfl | rfl | rfl | rfl | rfl | rfl | rfl
 · exact view_ix0 _ _ _ _ _ _ _ _ w
 · exact view_ix1 _ _ _ _ _ _ _ _ w
 · exact view_ix2 _ _ _ _ _ _ _ _ w
 · exact view_ix3 _ _ _ _ _ _ _ _ w
 · exact view_ix4 _ _ _ _ _ _ _ _ w
 · exact view_ix5 _ _ _ _ _ _ _ _ w
 · exact view_ix6 _ _ _ _ _ _ _ _ w
 · exact view_ix7 _ _ _ _ _ _ _ _ w
end Go.Proofs.YthaceckccobgeaaGreat

namespace Go.Proofs.YthaceckccobgeaaGreat
open Go.RowKit
set_option linter.unusedVariables false
set_option linter.unusedSimpArgs false
set_option maxRecDepth 100000
theorem step_copy_own7 {P : Program} {ops : Array Oper} {o : Oper} {a : Act} {w : World} {K : Act → World → Prop} {Q : Exit → Act → World → Prop} {E : Prop} (hgd : o.guard = none) (d s : Operand) (dT sT : TypeId)
 (ho : o.op = .call { callee := .builtin .copy, args := #[d, s], argTypes := #[dT, sT] }) (elem : TypeId) (hu : P.underlying dT = some (.slice elem)) (hsz : (P.info? elem).map (·.size) = some 1)
 (g off dLen dCap : Nat) (ad : Addr) (sLen sCap : Nat) (hd : a.eval d = .slice (some ⟨g, off, none⟩) dLen dCap) (hs : a.eval s = .slice (some ad) sLen sCap)
 (cur : List Value) (t : TypeId) (hg : w.heap[g]? = some (.cells cur.toArray t (0, 0))) (cs : List Value) (hn : cs.length = Nat.min sLen dLen)
 (hsrc : ∀ j v, cs[j]? = some v → w.cell? (ad.add j) = some v) (hfit : off + cs.length ≤ cur.length) (h1 : ∀ v ∈ cs, v.oneCell' = true)
 (h : K (a.put o.dst (goInt cs.length)) (w.setRow g (splice cur off cs).toArray)) :
 if Region.wanted o (yielded ops a.tmps) = true then Oper.wp P o a w K Q else E := by
 have hw : Region.wanted o (yielded ops a.tmps) = true := by simp [Region.wanted, hgd]
 rw [if_pos hw]
 have hrun := run_copy_row (P := P) w dT sT o.type elem g off dLen dCap ad sLen sCap cur.toArray t cs hu hsz hg hn hsrc (by simpa using hfit) h1
 unfold Oper.wp
 simp [execOp, ho, resolve, invoke, builtin, hd, hs, hrun, Result.andThen]
 unfold splice at h
 exact h
theorem keep_setRow {w : World} (g : Nat) (cs : Array Value) : Keep (fun k => k = g) w (w.setRow g cs) :=
 ⟨rfl, rfl, rfl, by simp [World.setRow], fun k _ hk => setRow_other w g k cs hk⟩
theorem blk_setRow {w : World} {g : Nat} {t : TypeId} {cur cs : List Value} (h : Blk w g t cur) : Blk (w.setRow g cs.toArray) g t cs := setRow_heap w g _ _ t _ h
def TryQ (b s x : Nat) (lf e1 e2 e3 e4 en : Value) (w w' : World) : Prop :=
 ∃ po pg px go oc, Blk w' x 110 [i64 (b : Int), i64 (s : Int), lf, .func (.func 118) #[] #[ptr po, ptr pg], .func (.func 119) #[] #[ptr pg, ptr po, ptr px], e1, e2, e3, e4, en] ∧ Blk w' po 22 [.slice (some ⟨go, 0, none⟩) (4 + 2 * s) oc] ∧ Ints w' go ((wl b s).map Int.ofNat) ∧
  Blk w' px 57 [ptr x] ∧ Blk w' pg 22 [.slice none 0 0] ∧ (w.heap.size ≤ po ∧ w.heap.size ≤ pg ∧ w.heap.size ≤ px ∧ w.heap.size ≤ go) ∧ po ≠ pg
set_option maxHeartbeats 8000000 in
theorem snap_closed_yes (b s x gg c : Nat) (left : Int) (nx tk : Value) (g : List Int) (w : World) (hs : 1 ≤ s ∧ s ≤ 8) (hx : Blk w x 110 [i64 (b : Int), i64 (s : Int), i64 (left), nx, tk, i64 0, i64 (0), .bool false, i64 0, .bool false]) (hl : 1 ≤ left ∧ left ≤ 1000) (hg : g.length = 4 + 2 * s) (hc : 4 + 2 * s ≤ c) (hI : Ints w gg g) (hgx : gg ≠ x) (hcalm : calmB s g = true) :
 Calls Tryz.prog 120 #[ptr x, .slice (some ⟨gg, 0, none⟩) (4 + 2 * s) c] w fun e w' => e = .returned (.tuple #[]) ∧ Keep (fun k => k = x) w w' ∧ Blk w' x 110 [i64 (b : Int), i64 (s : Int), i64 (left - 1), nx, tk, i64 0, i64 (gsum s g 8), .bool true, i64 0, .bool true] := by
 have HX := hid hx
 have HI := hid hI
 have HG := hid hg
 clear hx hI hg
 have y1 : IntKind.i64.wrap (3 + (s : Int)) = 3 + (s : Int) := IntWalk.i64_in _ (by omega)
 have y2 : IntKind.i64.wrap (3 + (s : Int) + 1) = 4 + (s : Int) := by rw [show 3 + (s : Int) + 1 = 4 + (s : Int) by omega]; exact IntWalk.i64_in _ (by omega)
 have qx := HX.out.k10
 go_enter Tryz.func120, Tryz.ntmps120
 go_wp2_with fail
 have HA := hid (show Blk ((w.alloc (.cells #[i64 0, i64 0, i64 0, i64 0, i64 0, i64 0, i64 0, i64 0] 142)).alloc (.cells #[i64 0, i64 0, i64 0, i64 0, i64 0, i64 0, i64 0, i64 0] 142)) w.heap.size 142 (List.replicate 8 (i64 0)) from (Blk.made rfl rfl).alloc _)
 have HB := hid (show Blk ((w.alloc (.cells #[i64 0, i64 0, i64 0, i64 0, i64 0, i64 0, i64 0, i64 0] 142)).alloc (.cells #[i64 0, i64 0, i64 0, i64 0, i64 0, i64 0, i64 0, i64 0] 142)) (w.heap.size + 1) 142 (List.replicate 8 (i64 0)) from Blk.made (by simp) rfl)
 have HK2 := hid (((Keep.refl (fun _ => False) w).alloc (.cells #[i64 0, i64 0, i64 0, i64 0, i64 0, i64 0, i64 0, i64 0] 142)).alloc (.cells #[i64 0, i64 0, i64 0, i64 0, i64 0, i64 0, i64 0, i64 0] 142))
 have hs2 : ((w.alloc (.cells #[i64 0, i64 0, i64 0, i64 0, i64 0, i64 0, i64 0, i64 0] 142)).alloc (.cells #[i64 0, i64 0, i64 0, i64 0, i64 0, i64 0, i64 0, i64 0] 142)).heap.size = w.heap.size + 2 := by simp
 have HX2 := hid (HK2.out.blk HX.out (fun h => h))
 have HI2 := hid (HK2.out.ints HI.out (fun h => h))
 generalize (w.alloc (.cells #[i64 0, i64 0, i64 0, i64 0, i64 0, i64 0, i64 0, i64 0] 142)).alloc (.cells #[i64 0, i64 0, i64 0, i64 0, i64 0, i64 0, i64 0, i64 0] 142) = w2 at *
 obtain ⟨cs1, hcs1⟩ : ∃ cs1, cs1 = (List.range s).map (fun i => i64 (rd g (3 + i))) := ⟨_, rfl⟩
 obtain ⟨cs2, hcs2⟩ : ∃ cs2, cs2 = (List.range s).map (fun i => i64 (rd g (4 + s + i))) := ⟨_, rfl⟩
 have hmin : Nat.min s 8 = s := Nat.min_eq_left hs.2
 have hn1 : cs1.length = Nat.min s 8 := by rw [hmin, hcs1]; simp
 have hn2 : cs2.length = Nat.min s 8 := by rw [hmin, hcs2]; simp
 have ho1 : ∀ v ∈ cs1, v.oneCell' = true := by rw [hcs1]; intro v hv; obtain ⟨i, _, rfl⟩ := List.mem_map.1 hv; rfl
 have ho2 : ∀ v ∈ cs2, v.oneCell' = true := by rw [hcs2]; intro v hv; obtain ⟨i, _, rfl⟩ := List.mem_map.1 hv; rfl
 have hp1 : ∀ w', Ints w' gg g → ∀ j v, cs1[j]? = some v → w'.cell? ((⟨gg, 3, none⟩ : Addr).add j) = some v := by
  intro w' hi j v hj
  rw [hcs1, List.getElem?_map] at hj
  have hjs : j < s := by
   by_cases h : j < s
   · exact h
   · rw [List.getElem?_eq_none (by simp; omega)] at hj; cases hj
  rw [List.getElem?_range hjs] at hj
  cases hj
  rw [addr_addo]
  exact hi.cell (3 + j) (by rw [HG.out]; omega)
 have hp2 : ∀ w', Ints w' gg g → ∀ j v, cs2[j]? = some v → w'.cell? ((⟨gg, 4 + s, none⟩ : Addr).add j) = some v := by
  intro w' hi j v hj
  rw [hcs2, List.getElem?_map] at hj
  have hjs : j < s := by
   by_cases h : j < s
   · exact h
   · rw [List.getElem?_eq_none (by simp; omega)] at hj; cases hj
  rw [List.getElem?_range hjs] at hj
  cases hj
  rw [addr_addo]
  exact hi.cell (4 + s + j) (by rw [HG.out]; omega)
 have hgl := HI2.out.lt
 have hf1 : 0 + cs1.length ≤ (List.replicate 8 (i64 0)).length := by rw [hn1, hmin, List.length_replicate]; omega
 have hf2 : 0 + cs2.length ≤ (List.replicate 8 (i64 0)).length := by rw [hn2, hmin, List.length_replicate]; omega
 have HF1 := hid hf1
 have HF2 := hid hf2
 have HN1 := hid hn1
 have HN2 := hid hn2
 have HO1 := hid ho1
 have HO2 := hid ho2
 have HP1 := hid hp1
 have HP2 := hid hp2
 have HC1 := hid hcs1
 have HC2 := hid hcs2
 have hc3 : ¬ c = 3 := by omega
 have hc4 : ¬ c = 4 + s := by omega
 have q1 : (0 ≤ 3 + (s : Int) ∧ 3 + (s : Int) ≤ (c : Int)) = True := by simp; omega
 have q2 : max (3 + (s : Int)) 0 = 3 + (s : Int) := by omega
 have q3 : (3 + (s : Int)).toNat - 3 = s := by omega
 have q4 : (3 ≤ 3 + (s : Int)) = True := by simp; omega
 clear hf1 hf2 hmin hn1 hn2 ho1 ho2 hp1 hp2 hcs1 hcs2 qx
 go_region_law (refine step_copy_own7 rfl (.tmp 15) (.tmp 18) 22 22 rfl 3 Tryz.underlying22 (by kernel_rfl) (w.heap.size) 0 8 8 ⟨gg, 3, none⟩ s (c - 3) rfl rfl (List.replicate 8 (i64 0)) 142 (show Blk _ _ _ _ from by repeat (with_reducible first | exact HA.out | apply Blk.drew | apply Blk.drewN)) cs1 HN1.out (HP1.out _ (by repeat (with_reducible first | exact HI2.out | apply Ints.drew | apply Ints.drewN))) HF1.out HO1.out ?_)
 have hk4 : Keep (fun k => k = w.heap.size) w2 (w2.drew.setRow w.heap.size (splice [i64 0, i64 0, i64 0, i64 0, i64 0, i64 0, i64 0, i64 0] 0 cs1).toArray) := (Keep.refl _ w2).drew.trans (keep_setRow _ _) (fun _ _ h => h)
 have HA4 := hid (blk_setRow (cs := splice [i64 0, i64 0, i64 0, i64 0, i64 0, i64 0, i64 0, i64 0] 0 cs1) HA.out.drew)
 have HB4 := hid (hk4.blk HB.out (by show ¬ w.heap.size + 1 = w.heap.size; omega))
 have HX4 := hid (hk4.blk HX2.out (show ¬ x = w.heap.size from by have := HX.out.lt; omega))
 have HI4 := hid (hk4.ints HI2.out (show ¬ gg = w.heap.size from by have := HI.out.lt; omega))
 have HK4 : Hid (Keep0 w (w2.drew.setRow w.heap.size (splice [i64 0, i64 0, i64 0, i64 0, i64 0, i64 0, i64 0, i64 0] 0 cs1).toArray)) := hid (HK2.out.trans (S := fun _ => False) hk4 (fun k hk e => by have e' : k = w.heap.size := e; omega))
 have hs4 : w.heap.size + 2 ≤ (w2.drew.setRow w.heap.size (splice [i64 0, i64 0, i64 0, i64 0, i64 0, i64 0, i64 0, i64 0] 0 cs1).toArray).heap.size := by have := hk4.size; omega
 clear hk4 HA HB HX2 HI2 HK2
 generalize w2.drew.setRow w.heap.size (splice [i64 0, i64 0, i64 0, i64 0, i64 0, i64 0, i64 0, i64 0] 0 cs1).toArray = w4 at *
 clear q1 q2 q3 q4
 have q1 : 4 + (s : Int) ≤ 4 + 2 * (s : Int) := by omega
 have q2 : (4 + (s : Int)).toNat = 4 + s := by omega
 have q3 : 4 + 2 * s - (4 + s) = s := by omega
 have q5 : (0 ≤ 4 + (s : Int)) = True := by simp; omega
 go_wp2_with fail
 go_region_law (refine step_copy_own7 rfl (.tmp 20) (.tmp 24) 22 22 rfl 3 Tryz.underlying22 (by kernel_rfl) (w.heap.size + 1) 0 8 8 ⟨gg, 4 + s, none⟩ s (c - (4 + s)) rfl rfl (List.replicate 8 (i64 0)) 142 (show Blk _ _ _ _ from by repeat (with_reducible first | exact HB4.out | apply Blk.drew | apply Blk.drewN)) cs2 HN2.out (HP2.out _ (by repeat (with_reducible first | exact HI4.out | apply Ints.drew | apply Ints.drewN))) HF2.out HO2.out ?_)
 have hk5 : Keep (fun k => k = w.heap.size + 1) w4 (w4.drew.setRow (w.heap.size + 1) (splice [i64 0, i64 0, i64 0, i64 0, i64 0, i64 0, i64 0, i64 0] 0 cs2).toArray) := (Keep.refl _ w4).drew.trans (keep_setRow _ _) (fun _ _ h => h)
 have e1 : splice [i64 0, i64 0, i64 0, i64 0, i64 0, i64 0, i64 0, i64 0] 0 cs1 = [i64 (vw s g 3 0), i64 (vw s g 3 1), i64 (vw s g 3 2), i64 (vw s g 3 3), i64 (vw s g 3 4), i64 (vw s g 3 5), i64 (vw s g 3 6), i64 (vw s g 3 7)] := by rw [HC1.out]; exact view8 (fun i => rd g (3 + i)) s hs.2
 have e2 : splice [i64 0, i64 0, i64 0, i64 0, i64 0, i64 0, i64 0, i64 0] 0 cs2 = [i64 (vw s g (4 + s) 0), i64 (vw s g (4 + s) 1), i64 (vw s g (4 + s) 2), i64 (vw s g (4 + s) 3), i64 (vw s g (4 + s) 4), i64 (vw s g (4 + s) 5), i64 (vw s g (4 + s) 6), i64 (vw s g (4 + s) 7)] := by rw [HC2.out]; exact view8 (fun i => rd g (4 + s + i)) s hs.2
 have hb5 := blk_setRow (cs := splice [i64 0, i64 0, i64 0, i64 0, i64 0, i64 0, i64 0, i64 0] 0 cs2) HB4.out.drew
 have ha5 := hk5.blk HA4.out (by show ¬ w.heap.size = w.heap.size + 1; omega)
 have hx5 := hk5.blk HX4.out (show ¬ x = w.heap.size + 1 from by have := HX.out.lt; omega)
 have hi5 := hk5.ints HI4.out (show ¬ gg = w.heap.size + 1 from by have := HI.out.lt; omega)
 have hk05 : Keep0 w (w4.drew.setRow (w.heap.size + 1) (splice [i64 0, i64 0, i64 0, i64 0, i64 0, i64 0, i64 0, i64 0] 0 cs2).toArray) := HK4.out.trans (S := fun _ => False) hk5 (fun k hk e => by have e' : k = w.heap.size + 1 := e; omega)
 rw [e1] at ha5
 generalize w4.drew.setRow (w.heap.size + 1) (splice [i64 0, i64 0, i64 0, i64 0, i64 0, i64 0, i64 0, i64 0] 0 cs2).toArray = w5 at *
 rw [e2] at hb5
 have HA5 := hid ha5
 have HB5 := hid hb5
 have HX5 := hid hx5
 have HI5 := hid hi5
 have HK5 := hid hk05
 have qx5 := hx5.k10
 have y3 : IntKind.i64.wrap (left - 1) = left - 1 := IntWalk.i64_in _ (by omega)
 clear hk5 e1 e2 ha5 hb5 hx5 hi5 hk05 HA4 HB4 HX4 HI4 HK4 q1 q2 q3 q5 hs4 HC1 HC2 HP1 HP2 HO1 HO2 HN1 HN2 HF1 HF2
 go_wp2_with fail
 have h6 := HX5.out.set 2 (i64 (left - 1))
 simp only [List.set_cons_succ, List.set_cons_zero] at h6
 have HX6 := hid h6
 have hxw := HX.out.lt
 have HA6 := hid (HA5.out.other (a := ⟨x, 2, none⟩) (i64 (left - 1)) (by show x ≠ w.heap.size; omega))
 have HB6 := hid (HB5.out.other (a := ⟨x, 2, none⟩) (i64 (left - 1)) (by show x ≠ w.heap.size + 1; omega))
 have HI6 := hid (((Keep.refl (fun k => k = x) w5).set ⟨x, 2, none⟩ (i64 (left - 1)) (fun _ => rfl)).ints HI5.out hgx)
 have HK6 : Hid (Keep (fun k => k = x) w (w5.setCell ⟨x, 2, none⟩ (i64 (left - 1)))) := hid ((HK5.out.mono (fun _ h => h.elim)).set ⟨x, 2, none⟩ (i64 (left - 1)) (fun _ => rfl))
 clear h6 HX5 HA5 HB5 HI5 HK5 qx5
 generalize w5.setCell ⟨x, 2, none⟩ (i64 (left - 1)) = w6 at *
 have c0 := HI6.out.cell 0 (by rw [HG.out]; omega)
 have c1 := HI6.out.cell 1 (by rw [HG.out]; omega)
 have c2 := HI6.out.cell 2 (by rw [HG.out]; omega)
 have cm := HI6.out.cell (3 + s) (by rw [HG.out]; omega)
 have cz := HI6.out.lt
 have HV := hid (show viewB s g = (vw s g 3 0 == vw s g (4 + s) 0 && (vw s g 3 1 == vw s g (4 + s) 1 && (vw s g 3 2 == vw s g (4 + s) 2 && (vw s g 3 3 == vw s g (4 + s) 3 && (vw s g 3 4 == vw s g (4 + s) 4 && (vw s g 3 5 == vw s g (4 + s) 5 && (vw s g 3 6 == vw s g (4 + s) 6 && vw s g 3 7 == vw s g (4 + s) 7))))))) from rfl)
 have HCA := hid (show calmB s g = (rd g 0 == rd g 1 && (rd g 0 == rd g (3 + s) && viewB s g)) from rfl)
 have HS0 := hid (show gsum s g 0 = rd g 2 from rfl)
 have HSS := hid (show ∀ i, gsum s g (i + 1) = wrap64 (gsum s g i + pVal (vw s g 3 i)) from fun _ => rfl)
 generalize vw s g 3 = AI at *
 generalize vw s g (4 + s) = DI at *
 have qa := HA6.out.k8
 have qb := HB6.out.k8
 generalize rd g 0 = r0 at *
 generalize rd g 1 = r1 at *
 generalize rd g 2 = r2 at *
 generalize rd g (3 + s) = rm at *
 have q6 : (0 ≤ 3 + (s : Int)) = True := by simp; omega
 have q7 : (3 + (s : Int)).toNat = 3 + s := by omega
 have q8 : 3 + (s : Int) < 4 + 2 * (s : Int) := by omega
 have hca := hcalm
 rw [HCA.out] at hca
 simp only [Bool.and_eq_true] at hca
 obtain ⟨h1, h2, h3⟩ := hca
 go_quiet (fail)
 obtain ⟨w7, hw7⟩ : ∃ w7, w7 = w6.drewN nq := ⟨_, rfl⟩
 rw [← hw7, ← HV.out, h3]
 have HX7 := hid (show Blk w7 x 110 [i64 (b : Int), i64 (s : Int), i64 (left - 1), nx, tk, i64 0, i64 (0), .bool false, i64 0, .bool false] from by rw [hw7]; exact HX6.out.drewN nq)
 have HA7 := hid (show Blk w7 w.heap.size 142 [i64 (AI 0), i64 (AI 1), i64 (AI 2), i64 (AI 3), i64 (AI 4), i64 (AI 5), i64 (AI 6), i64 (AI 7)] from by rw [hw7]; exact HA6.out.drewN nq)
 have HK7 : Hid (Keep (fun k => k = x) w w7) := hid (by rw [hw7]; exact HK6.out.drewN nq)
 have c7 : w7.cell? ⟨gg, 2, none⟩ = some (i64 r2) := by rw [hw7]; exact c2
 have cz7 : gg < w7.heap.size := by rw [hw7]; exact cz
 clear HX6 HA6 HB6 HI6 HK6 hw7 qa qb c0 c1 c2 cm cz h1 h2 h3 HI HV HCA hs2 hgl hc3 hc4 q6 q7 q8 hcalm HG
 have qa := HA7.out.k8
 go_wp2_with fail
 clear c7
 go_loopw [7, 62] (fun v u wr => ∃ i : Nat, i ≤ 8 ∧ u = .int .i64 i ∧ v = .int .i64 (gsum s g i) ∧ w7 = wr) (fun _ u _ => 8 - (intOf u).toNat)
 case atStart => exact ⟨0, by omega, rfl, by rw [HS0.out], rfl⟩
 case round =>
  obtain ⟨i, hi, rfl, rfl, rfl⟩ := hrel
  by_cases hlt : i < 8
  · have yix := fun w => view_ix AI i hlt w
    have hmv := HSS.out i
    have HSN := hid hmv
    generalize AI i = ai at *
    have y8 : IntKind.i64.wrap (gsum s g i + pVal ai) = gsum s g (i + 1) := by rw [hmv, IntKind.wrap_i64, wrap64]
    clear hmv
    generalize hS1 : gsum s g (i + 1) = S1 at *
    generalize gsum s g i = S0 at *
    have HS1 := hid hS1
    clear hS1 qa
    go_wp2_with fail
    refine (pack_Value ai _).mono ?_
    rintro e w8 ⟨rfl, rfl⟩
    go_wp2_with fail
    go_roundw
    case rel => exact ⟨i + 1, by omega, by go_num, by rw [HS1.out], by first | rfl | trivial⟩
    case measure => first | (simp [intOf]; done) | (simp [intOf]; omega)
  · obtain rfl : i = 8 := by omega
    have hw8 := ((((HX7.out.set 5 (i64 0)).set 6 (i64 (gsum s g 8))).set 7 (.bool true)).set 8 (i64 0)).set 9 (.bool true)
    simp only [List.set_cons_succ, List.set_cons_zero] at hw8
    have HW8 := hid hw8
    have qx7 := HX7.out.k10
    clear hw8 qa
    go_wp2_with fail
    go_end0
    exact ⟨rfl, by repeat (with_reducible first | exact HK7.out | refine Keep.set ?_ _ _ (fun _ => rfl)), HW8.out⟩
end Go.Proofs.YthaceckccobgeaaGreat


namespace Go.Proofs.YthaceckccobgeaaGreat
open Go.RowKit
set_option linter.unusedVariables false
set_option linter.unusedSimpArgs false
set_option maxRecDepth 100000
def ClNo (b s x gg : Nat) (left : Int) (nx tk : Value) (g : List Int) (w w' : World) : Prop :=
 (left - 1 = 0 → Blk w' x 110 [i64 (b : Int), i64 (s : Int), i64 (left - 1), nx, tk, i64 0, i64 (rd g 2), .bool false, i64 0, .bool true]) ∧ (¬ left - 1 = 0 → TryQ b s x (i64 (left - 1)) (i64 0) (i64 0) (.bool false) (i64 0) (.bool false) w w')
set_option maxHeartbeats 8000000 in
theorem snap_closed_no (b s x gg c : Nat) (left : Int) (nx tk : Value) (g : List Int) (w : World) (hs : 1 ≤ s ∧ s ≤ 8) (hx : Blk w x 110 [i64 (b : Int), i64 (s : Int), i64 (left), nx, tk, i64 0, i64 (0), .bool false, i64 0, .bool false]) (hl : 1 ≤ left ∧ left ≤ 1000) (hg : g.length = 4 + 2 * s) (hc : 4 + 2 * s ≤ c) (hI : Ints w gg g) (hgx : gg ≠ x) (hb : b ≤ 1000000) (hcalm : calmB s g = false) :
 Calls Tryz.prog 120 #[ptr x, .slice (some ⟨gg, 0, none⟩) (4 + 2 * s) c] w fun e w' => e = .returned (.tuple #[]) ∧ Keep (fun k => k = x) w w' ∧
  ClNo b s x gg left nx tk g w w' := by
 have HX := hid hx
 have HI := hid hI
 have HG := hid hg
 clear hx hI hg
 have y1 : IntKind.i64.wrap (3 + (s : Int)) = 3 + (s : Int) := IntWalk.i64_in _ (by omega)
 have y2 : IntKind.i64.wrap (3 + (s : Int) + 1) = 4 + (s : Int) := by rw [show 3 + (s : Int) + 1 = 4 + (s : Int) by omega]; exact IntWalk.i64_in _ (by omega)
 have qx := HX.out.k10
 go_enter Tryz.func120, Tryz.ntmps120
 go_wp2_with fail
 have HA := hid (show Blk ((w.alloc (.cells #[i64 0, i64 0, i64 0, i64 0, i64 0, i64 0, i64 0, i64 0] 142)).alloc (.cells #[i64 0, i64 0, i64 0, i64 0, i64 0, i64 0, i64 0, i64 0] 142)) w.heap.size 142 (List.replicate 8 (i64 0)) from (Blk.made rfl rfl).alloc _)
 have HB := hid (show Blk ((w.alloc (.cells #[i64 0, i64 0, i64 0, i64 0, i64 0, i64 0, i64 0, i64 0] 142)).alloc (.cells #[i64 0, i64 0, i64 0, i64 0, i64 0, i64 0, i64 0, i64 0] 142)) (w.heap.size + 1) 142 (List.replicate 8 (i64 0)) from Blk.made (by simp) rfl)
 have HK2 := hid (((Keep.refl (fun _ => False) w).alloc (.cells #[i64 0, i64 0, i64 0, i64 0, i64 0, i64 0, i64 0, i64 0] 142)).alloc (.cells #[i64 0, i64 0, i64 0, i64 0, i64 0, i64 0, i64 0, i64 0] 142))
 have hs2 : ((w.alloc (.cells #[i64 0, i64 0, i64 0, i64 0, i64 0, i64 0, i64 0, i64 0] 142)).alloc (.cells #[i64 0, i64 0, i64 0, i64 0, i64 0, i64 0, i64 0, i64 0] 142)).heap.size = w.heap.size + 2 := by simp
 have HX2 := hid (HK2.out.blk HX.out (fun h => h))
 have HI2 := hid (HK2.out.ints HI.out (fun h => h))
 generalize (w.alloc (.cells #[i64 0, i64 0, i64 0, i64 0, i64 0, i64 0, i64 0, i64 0] 142)).alloc (.cells #[i64 0, i64 0, i64 0, i64 0, i64 0, i64 0, i64 0, i64 0] 142) = w2 at *
 obtain ⟨cs1, hcs1⟩ : ∃ cs1, cs1 = (List.range s).map (fun i => i64 (rd g (3 + i))) := ⟨_, rfl⟩
 obtain ⟨cs2, hcs2⟩ : ∃ cs2, cs2 = (List.range s).map (fun i => i64 (rd g (4 + s + i))) := ⟨_, rfl⟩
 have hmin : Nat.min s 8 = s := Nat.min_eq_left hs.2
 have hn1 : cs1.length = Nat.min s 8 := by rw [hmin, hcs1]; simp
 have hn2 : cs2.length = Nat.min s 8 := by rw [hmin, hcs2]; simp
 have ho1 : ∀ v ∈ cs1, v.oneCell' = true := by rw [hcs1]; intro v hv; obtain ⟨i, _, rfl⟩ := List.mem_map.1 hv; rfl
 have ho2 : ∀ v ∈ cs2, v.oneCell' = true := by rw [hcs2]; intro v hv; obtain ⟨i, _, rfl⟩ := List.mem_map.1 hv; rfl
 have hp1 : ∀ w', Ints w' gg g → ∀ j v, cs1[j]? = some v → w'.cell? ((⟨gg, 3, none⟩ : Addr).add j) = some v := by
  intro w' hi j v hj
  rw [hcs1, List.getElem?_map] at hj
  have hjs : j < s := by
   by_cases h : j < s
   · exact h
   · rw [List.getElem?_eq_none (by simp; omega)] at hj; cases hj
  rw [List.getElem?_range hjs] at hj
  cases hj
  rw [addr_addo]
  exact hi.cell (3 + j) (by rw [HG.out]; omega)
 have hp2 : ∀ w', Ints w' gg g → ∀ j v, cs2[j]? = some v → w'.cell? ((⟨gg, 4 + s, none⟩ : Addr).add j) = some v := by
  intro w' hi j v hj
  rw [hcs2, List.getElem?_map] at hj
  have hjs : j < s := by
   by_cases h : j < s
   · exact h
   · rw [List.getElem?_eq_none (by simp; omega)] at hj; cases hj
  rw [List.getElem?_range hjs] at hj
  cases hj
  rw [addr_addo]
  exact hi.cell (4 + s + j) (by rw [HG.out]; omega)
 have hgl := HI2.out.lt
 have hf1 : 0 + cs1.length ≤ (List.replicate 8 (i64 0)).length := by rw [hn1, hmin, List.length_replicate]; omega
 have hf2 : 0 + cs2.length ≤ (List.replicate 8 (i64 0)).length := by rw [hn2, hmin, List.length_replicate]; omega
 have HF1 := hid hf1
 have HF2 := hid hf2
 have HN1 := hid hn1
 have HN2 := hid hn2
 have HO1 := hid ho1
 have HO2 := hid ho2
 have HP1 := hid hp1
 have HP2 := hid hp2
 have HC1 := hid hcs1
 have HC2 := hid hcs2
 have hc3 : ¬ c = 3 := by omega
 have hc4 : ¬ c = 4 + s := by omega
 have q1 : (0 ≤ 3 + (s : Int) ∧ 3 + (s : Int) ≤ (c : Int)) = True := by simp; omega
 have q2 : max (3 + (s : Int)) 0 = 3 + (s : Int) := by omega
 have q3 : (3 + (s : Int)).toNat - 3 = s := by omega
 have q4 : (3 ≤ 3 + (s : Int)) = True := by simp; omega
 clear hf1 hf2 hmin hn1 hn2 ho1 ho2 hp1 hp2 hcs1 hcs2 qx
 go_region_law (refine step_copy_own7 rfl (.tmp 15) (.tmp 18) 22 22 rfl 3 Tryz.underlying22 (by kernel_rfl) (w.heap.size) 0 8 8 ⟨gg, 3, none⟩ s (c - 3) rfl rfl (List.replicate 8 (i64 0)) 142 (show Blk _ _ _ _ from by repeat (with_reducible first | exact HA.out | apply Blk.drew | apply Blk.drewN)) cs1 HN1.out (HP1.out _ (by repeat (with_reducible first | exact HI2.out | apply Ints.drew | apply Ints.drewN))) HF1.out HO1.out ?_)
 have hk4 : Keep (fun k => k = w.heap.size) w2 (w2.drew.setRow w.heap.size (splice [i64 0, i64 0, i64 0, i64 0, i64 0, i64 0, i64 0, i64 0] 0 cs1).toArray) := (Keep.refl _ w2).drew.trans (keep_setRow _ _) (fun _ _ h => h)
 have HA4 := hid (blk_setRow (cs := splice [i64 0, i64 0, i64 0, i64 0, i64 0, i64 0, i64 0, i64 0] 0 cs1) HA.out.drew)
 have HB4 := hid (hk4.blk HB.out (by show ¬ w.heap.size + 1 = w.heap.size; omega))
 have HX4 := hid (hk4.blk HX2.out (show ¬ x = w.heap.size from by have := HX.out.lt; omega))
 have HI4 := hid (hk4.ints HI2.out (show ¬ gg = w.heap.size from by have := HI.out.lt; omega))
 have HK4 : Hid (Keep0 w (w2.drew.setRow w.heap.size (splice [i64 0, i64 0, i64 0, i64 0, i64 0, i64 0, i64 0, i64 0] 0 cs1).toArray)) := hid (HK2.out.trans (S := fun _ => False) hk4 (fun k hk e => by have e' : k = w.heap.size := e; omega))
 have hs4 : w.heap.size + 2 ≤ (w2.drew.setRow w.heap.size (splice [i64 0, i64 0, i64 0, i64 0, i64 0, i64 0, i64 0, i64 0] 0 cs1).toArray).heap.size := by have := hk4.size; omega
 clear hk4 HA HB HX2 HI2 HK2
 generalize w2.drew.setRow w.heap.size (splice [i64 0, i64 0, i64 0, i64 0, i64 0, i64 0, i64 0, i64 0] 0 cs1).toArray = w4 at *
 clear q1 q2 q3 q4
 have q1 : 4 + (s : Int) ≤ 4 + 2 * (s : Int) := by omega
 have q2 : (4 + (s : Int)).toNat = 4 + s := by omega
 have q3 : 4 + 2 * s - (4 + s) = s := by omega
 have q5 : (0 ≤ 4 + (s : Int)) = True := by simp; omega
 go_wp2_with fail
 go_region_law (refine step_copy_own7 rfl (.tmp 20) (.tmp 24) 22 22 rfl 3 Tryz.underlying22 (by kernel_rfl) (w.heap.size + 1) 0 8 8 ⟨gg, 4 + s, none⟩ s (c - (4 + s)) rfl rfl (List.replicate 8 (i64 0)) 142 (show Blk _ _ _ _ from by repeat (with_reducible first | exact HB4.out | apply Blk.drew | apply Blk.drewN)) cs2 HN2.out (HP2.out _ (by repeat (with_reducible first | exact HI4.out | apply Ints.drew | apply Ints.drewN))) HF2.out HO2.out ?_)
 have hk5 : Keep (fun k => k = w.heap.size + 1) w4 (w4.drew.setRow (w.heap.size + 1) (splice [i64 0, i64 0, i64 0, i64 0, i64 0, i64 0, i64 0, i64 0] 0 cs2).toArray) := (Keep.refl _ w4).drew.trans (keep_setRow _ _) (fun _ _ h => h)
 have e1 : splice [i64 0, i64 0, i64 0, i64 0, i64 0, i64 0, i64 0, i64 0] 0 cs1 = [i64 (vw s g 3 0), i64 (vw s g 3 1), i64 (vw s g 3 2), i64 (vw s g 3 3), i64 (vw s g 3 4), i64 (vw s g 3 5), i64 (vw s g 3 6), i64 (vw s g 3 7)] := by rw [HC1.out]; exact view8 (fun i => rd g (3 + i)) s hs.2
 have e2 : splice [i64 0, i64 0, i64 0, i64 0, i64 0, i64 0, i64 0, i64 0] 0 cs2 = [i64 (vw s g (4 + s) 0), i64 (vw s g (4 + s) 1), i64 (vw s g (4 + s) 2), i64 (vw s g (4 + s) 3), i64 (vw s g (4 + s) 4), i64 (vw s g (4 + s) 5), i64 (vw s g (4 + s) 6), i64 (vw s g (4 + s) 7)] := by rw [HC2.out]; exact view8 (fun i => rd g (4 + s + i)) s hs.2
 have hb5 := blk_setRow (cs := splice [i64 0, i64 0, i64 0, i64 0, i64 0, i64 0, i64 0, i64 0] 0 cs2) HB4.out.drew
 have ha5 := hk5.blk HA4.out (by show ¬ w.heap.size = w.heap.size + 1; omega)
 have hx5 := hk5.blk HX4.out (show ¬ x = w.heap.size + 1 from by have := HX.out.lt; omega)
 have hi5 := hk5.ints HI4.out (show ¬ gg = w.heap.size + 1 from by have := HI.out.lt; omega)
 have hk05 : Keep0 w (w4.drew.setRow (w.heap.size + 1) (splice [i64 0, i64 0, i64 0, i64 0, i64 0, i64 0, i64 0, i64 0] 0 cs2).toArray) := HK4.out.trans (S := fun _ => False) hk5 (fun k hk e => by have e' : k = w.heap.size + 1 := e; omega)
 rw [e1] at ha5
 generalize w4.drew.setRow (w.heap.size + 1) (splice [i64 0, i64 0, i64 0, i64 0, i64 0, i64 0, i64 0, i64 0] 0 cs2).toArray = w5 at *
 rw [e2] at hb5
 have HA5 := hid ha5
 have HB5 := hid hb5
 have HX5 := hid hx5
 have HI5 := hid hi5
 have HK5 := hid hk05
 have qx5 := hx5.k10
 have y3 : IntKind.i64.wrap (left - 1) = left - 1 := IntWalk.i64_in _ (by omega)
 clear hk5 e1 e2 ha5 hb5 hx5 hi5 hk05 HA4 HB4 HX4 HI4 HK4 q1 q2 q3 q5 hs4 HC1 HC2 HP1 HP2 HO1 HO2 HN1 HN2 HF1 HF2
 go_wp2_with fail
 have h6 := HX5.out.set 2 (i64 (left - 1))
 simp only [List.set_cons_succ, List.set_cons_zero] at h6
 have HX6 := hid h6
 have hxw := HX.out.lt
 have HA6 := hid (HA5.out.other (a := ⟨x, 2, none⟩) (i64 (left - 1)) (by show x ≠ w.heap.size; omega))
 have HB6 := hid (HB5.out.other (a := ⟨x, 2, none⟩) (i64 (left - 1)) (by show x ≠ w.heap.size + 1; omega))
 have HI6 := hid (((Keep.refl (fun k => k = x) w5).set ⟨x, 2, none⟩ (i64 (left - 1)) (fun _ => rfl)).ints HI5.out hgx)
 have HK6 : Hid (Keep (fun k => k = x) w (w5.setCell ⟨x, 2, none⟩ (i64 (left - 1)))) := hid ((HK5.out.mono (fun _ h => h.elim)).set ⟨x, 2, none⟩ (i64 (left - 1)) (fun _ => rfl))
 clear h6 HX5 HA5 HB5 HI5 HK5 qx5
 generalize w5.setCell ⟨x, 2, none⟩ (i64 (left - 1)) = w6 at *
 have c0 := HI6.out.cell 0 (by rw [HG.out]; omega)
 have c1 := HI6.out.cell 1 (by rw [HG.out]; omega)
 have c2 := HI6.out.cell 2 (by rw [HG.out]; omega)
 have cm := HI6.out.cell (3 + s) (by rw [HG.out]; omega)
 have cz := HI6.out.lt
 have HV := hid (show viewB s g = (vw s g 3 0 == vw s g (4 + s) 0 && (vw s g 3 1 == vw s g (4 + s) 1 && (vw s g 3 2 == vw s g (4 + s) 2 && (vw s g 3 3 == vw s g (4 + s) 3 && (vw s g 3 4 == vw s g (4 + s) 4 && (vw s g 3 5 == vw s g (4 + s) 5 && (vw s g 3 6 == vw s g (4 + s) 6 && vw s g 3 7 == vw s g (4 + s) 7))))))) from rfl)
 have HCA := hid (show calmB s g = (rd g 0 == rd g 1 && (rd g 0 == rd g (3 + s) && viewB s g)) from rfl)
 have HS0 := hid (show gsum s g 0 = rd g 2 from rfl)
 have HSS := hid (show ∀ i, gsum s g (i + 1) = wrap64 (gsum s g i + pVal (vw s g 3 i)) from fun _ => rfl)
 generalize vw s g 3 = AI at *
 generalize vw s g (4 + s) = DI at *
 have qa := HA6.out.k8
 have qb := HB6.out.k8
 generalize rd g 0 = r0 at *
 generalize rd g 1 = r1 at *
 generalize hr2 : rd g 2 = r2 at *
 have HR2 := hid hr2
 clear hr2
 generalize rd g (3 + s) = rm at *
 have q6 : (0 ≤ 3 + (s : Int)) = True := by simp; omega
 have q7 : (3 + (s : Int)).toNat = 3 + s := by omega
 have q8 : 3 + (s : Int) < 4 + 2 * (s : Int) := by omega
 have hca := hcalm
 rw [HCA.out] at hca
 clear HS0 HSS
 cases h1 : (r0 == r1) with
 | false =>
  clear hca
  go_quiet (fail)
  obtain ⟨w7, hw7⟩ : ∃ w7, w7 = w6.drewN nq := ⟨_, rfl⟩
  rw [← hw7]
  have HX7 := hid (show Blk w7 x 110 [i64 (b : Int), i64 (s : Int), i64 (left - 1), nx, tk, i64 0, i64 (0), .bool false, i64 0, .bool false] from by rw [hw7]; exact HX6.out.drewN nq)
  have HK7 : Hid (Keep (fun k => k = x) w w7) := hid (by rw [hw7]; exact HK6.out.drewN nq)
  have c7 : w7.cell? ⟨gg, 2, none⟩ = some (i64 r2) := by rw [hw7]; exact c2
  have cz7 : gg < w7.heap.size := by rw [hw7]; exact cz
  clear HX6 HA6 HB6 HI6 HK6 hw7 qa qb c0 c1 c2 cm cz HI HV HCA hs2 hgl hc3 hc4 q6 q7 q8 hcalm HG hc hgx hxw y1 y2 hl
  have qx7 := HX7.out.k10
  by_cases hz : left - 1 = 0
  · have g1 : (left - 1 == 0) = true := by simpa using hz
    have HZ := hid hz
    have hw8 := ((((HX7.out.set 5 (i64 0)).set 6 (i64 r2)).set 7 (.bool false)).set 8 (i64 0)).set 9 (.bool true)
    simp only [List.set_cons_succ, List.set_cons_zero] at hw8
    have HW8 := hid hw8
    clear hw8 hz
    go_wp2_with fail
    go_end0
    unfold ClNo
    refine ⟨rfl, by repeat (with_reducible first | exact HK7.out | refine Keep.set ?_ _ _ (fun _ => rfl)), ?_⟩
    rw [HR2.out]
    exact ⟨fun _ => HW8.out, fun h => absurd HZ.out h⟩
  · have g1 : (left - 1 == 0) = false := by simpa using hz
    have HZ := hid hz
    have HT := hid (snap_try b s x (i64 (left - 1)) nx tk (i64 0) (i64 0) (.bool false) (i64 0) (.bool false) w7 hs.2 hb HX7.out)
    clear hz
    go_wp2_with fail
    refine HT.out.mono ?_
    rintro e w8 ⟨rfl, po, pg, px, go, oc, t1, t2, t3, t4, t5, t6, t7, t8⟩
    have HKE := hid (HK7.out.trans t8 (fun _ _ h => h))
    have hz7 := HK7.out.size
    have HTQ := hid (show TryQ b s x (i64 (left - 1)) (i64 0) (i64 0) (.bool false) (i64 0) (.bool false) w w8 from ⟨po, pg, px, go, oc, t1, t2, t3, t4, t5, ⟨Nat.le_trans hz7 t6.1, Nat.le_trans hz7 t6.2.1, Nat.le_trans hz7 t6.2.2.1, Nat.le_trans hz7 t6.2.2.2⟩, t7⟩)
    clear t1 t2 t3 t4 t5 t6 t7 t8
    go_wp2_with fail
    go_end0
    refine ⟨rfl, HKE.out, ?_⟩
    exact ⟨fun h => absurd h HZ.out, fun _ => HTQ.out⟩
 | true =>
  rw [h1, Bool.true_and] at hca
  cases h2 : (r0 == rm) with
  | false =>
   clear hca
   go_quiet (fail)
   obtain ⟨w7, hw7⟩ : ∃ w7, w7 = w6.drewN nq := ⟨_, rfl⟩
   rw [← hw7]
   have HX7 := hid (show Blk w7 x 110 [i64 (b : Int), i64 (s : Int), i64 (left - 1), nx, tk, i64 0, i64 (0), .bool false, i64 0, .bool false] from by rw [hw7]; exact HX6.out.drewN nq)
   have HK7 : Hid (Keep (fun k => k = x) w w7) := hid (by rw [hw7]; exact HK6.out.drewN nq)
   have c7 : w7.cell? ⟨gg, 2, none⟩ = some (i64 r2) := by rw [hw7]; exact c2
   have cz7 : gg < w7.heap.size := by rw [hw7]; exact cz
   clear HX6 HA6 HB6 HI6 HK6 hw7 qa qb c0 c1 c2 cm cz HI HV HCA hs2 hgl hc3 hc4 q6 q7 q8 hcalm HG hc hgx hxw y1 y2 hl
   have qx7 := HX7.out.k10
   by_cases hz : left - 1 = 0
   · have g1 : (left - 1 == 0) = true := by simpa using hz
     have HZ := hid hz
     have hw8 := ((((HX7.out.set 5 (i64 0)).set 6 (i64 r2)).set 7 (.bool false)).set 8 (i64 0)).set 9 (.bool true)
     simp only [List.set_cons_succ, List.set_cons_zero] at hw8
     have HW8 := hid hw8
     clear hw8 hz
     go_wp2_with fail
     go_end0
     unfold ClNo
     refine ⟨rfl, by repeat (with_reducible first | exact HK7.out | refine Keep.set ?_ _ _ (fun _ => rfl)), ?_⟩
     rw [HR2.out]
     exact ⟨fun _ => HW8.out, fun h => absurd HZ.out h⟩
   · have g1 : (left - 1 == 0) = false := by simpa using hz
     have HZ := hid hz
     have HT := hid (snap_try b s x (i64 (left - 1)) nx tk (i64 0) (i64 0) (.bool false) (i64 0) (.bool false) w7 hs.2 hb HX7.out)
     clear hz
     go_wp2_with fail
     refine HT.out.mono ?_
     rintro e w8 ⟨rfl, po, pg, px, go, oc, t1, t2, t3, t4, t5, t6, t7, t8⟩
     have HKE := hid (HK7.out.trans t8 (fun _ _ h => h))
     have hz7 := HK7.out.size
     have HTQ := hid (show TryQ b s x (i64 (left - 1)) (i64 0) (i64 0) (.bool false) (i64 0) (.bool false) w w8 from ⟨po, pg, px, go, oc, t1, t2, t3, t4, t5, ⟨Nat.le_trans hz7 t6.1, Nat.le_trans hz7 t6.2.1, Nat.le_trans hz7 t6.2.2.1, Nat.le_trans hz7 t6.2.2.2⟩, t7⟩)
     clear t1 t2 t3 t4 t5 t6 t7 t8
     go_wp2_with fail
     go_end0
     refine ⟨rfl, HKE.out, ?_⟩
     exact ⟨fun h => absurd h HZ.out, fun _ => HTQ.out⟩
  | true =>
   rw [h2, Bool.true_and] at hca
   go_quiet (fail)
   rw [← HV.out, hca]
   obtain ⟨w7, hw7⟩ : ∃ w7, w7 = w6.drewN nq := ⟨_, rfl⟩
   rw [← hw7]
   have HX7 := hid (show Blk w7 x 110 [i64 (b : Int), i64 (s : Int), i64 (left - 1), nx, tk, i64 0, i64 (0), .bool false, i64 0, .bool false] from by rw [hw7]; exact HX6.out.drewN nq)
   have HK7 : Hid (Keep (fun k => k = x) w w7) := hid (by rw [hw7]; exact HK6.out.drewN nq)
   have c7 : w7.cell? ⟨gg, 2, none⟩ = some (i64 r2) := by rw [hw7]; exact c2
   have cz7 : gg < w7.heap.size := by rw [hw7]; exact cz
   clear HX6 HA6 HB6 HI6 HK6 hw7 qa qb c0 c1 c2 cm cz HI HV HCA hs2 hgl hc3 hc4 q6 q7 q8 hcalm HG hc hgx hxw y1 y2 hl
   have qx7 := HX7.out.k10
   by_cases hz : left - 1 = 0
   · have g1 : (left - 1 == 0) = true := by simpa using hz
     have HZ := hid hz
     have hw8 := ((((HX7.out.set 5 (i64 0)).set 6 (i64 r2)).set 7 (.bool false)).set 8 (i64 0)).set 9 (.bool true)
     simp only [List.set_cons_succ, List.set_cons_zero] at hw8
     have HW8 := hid hw8
     clear hw8 hz
     go_wp2_with fail
     go_end0
     unfold ClNo
     refine ⟨rfl, by repeat (with_reducible first | exact HK7.out | refine Keep.set ?_ _ _ (fun _ => rfl)), ?_⟩
     rw [HR2.out]
     exact ⟨fun _ => HW8.out, fun h => absurd HZ.out h⟩
   · have g1 : (left - 1 == 0) = false := by simpa using hz
     have HZ := hid hz
     have HT := hid (snap_try b s x (i64 (left - 1)) nx tk (i64 0) (i64 0) (.bool false) (i64 0) (.bool false) w7 hs.2 hb HX7.out)
     clear hz
     go_wp2_with fail
     refine HT.out.mono ?_
     rintro e w8 ⟨rfl, po, pg, px, go, oc, t1, t2, t3, t4, t5, t6, t7, t8⟩
     have HKE := hid (HK7.out.trans t8 (fun _ _ h => h))
     have hz7 := HK7.out.size
     have HTQ := hid (show TryQ b s x (i64 (left - 1)) (i64 0) (i64 0) (.bool false) (i64 0) (.bool false) w w8 from ⟨po, pg, px, go, oc, t1, t2, t3, t4, t5, ⟨Nat.le_trans hz7 t6.1, Nat.le_trans hz7 t6.2.1, Nat.le_trans hz7 t6.2.2.1, Nat.le_trans hz7 t6.2.2.2⟩, t7⟩)
     clear t1 t2 t3 t4 t5 t6 t7 t8
     go_wp2_with fail
     go_end0
     refine ⟨rfl, HKE.out, ?_⟩
     exact ⟨fun h => absurd h HZ.out, fun _ => HTQ.out⟩
end Go.Proofs.YthaceckccobgeaaGreat


namespace Go.Proofs.YthaceckccobgeaaGreat
open Go.RowKit
set_option linter.unusedVariables false
set_option linter.unusedSimpArgs false
set_option maxRecDepth 100000
theorem rd_wl {b s k : Nat} (h : k < 4 + 2 * s) : rd ((wl b s).map Int.ofNat) k = ((wat b s k : Nat) : Int) := by
 have hl : k < (wl b s).length := by rw [wl_length]; exact h
 simp [rd, wat, hl]
set_option maxHeartbeats 1000000 in
theorem snap_next (b s po pg go oc k c : Nat) (A : Option Addr) (w : World) (hpo : Blk w po 22 [.slice (some ⟨go, 0, none⟩) (4 + 2 * s) oc]) (hpg : Blk w pg 22 [.slice A k c]) (hI : Ints w go ((wl b s).map Int.ofNat)) (hk : k < 4 + 2 * s) :
 Calls Tryz.prog 118 #[ptr po, ptr pg] w fun e w' => e = .returned (i64 ((wat b s k : Nat) : Int)) ∧ w = w' := by
 have qo := hpo.k1
 have qg := hpg.k1
 have c1 := hI.cell k (by rw [List.length_map, wl_length]; exact hk)
 rw [rd_wl hk] at c1
 have cz := hI.lt
 have q1 : (k : Int) < 4 + 2 * (s : Int) := by omega
 generalize wat b s k = v at *
 clear hpo hpg hI
 go_enter Tryz.func118, Tryz.ntmps118
 go_wp2_with fail
 go_ret
 exact ⟨rfl, rfl⟩
set_option maxHeartbeats 2000000 in
theorem snap_take_more (s po pg px go oc x c : Nat) (n : Int) (g : List Int) (A : Option Addr) (w : World) (hpo : Blk w po 22 [.slice (some ⟨go, 0, none⟩) (4 + 2 * s) oc]) (hpg : Blk w pg 22 [.slice A g.length c]) (hpx : Blk w px 57 [ptr x]) (ho : w.ownsRow 0 3 1 (.slice A g.length c) g.length (ints g)) (hpog : po ≠ pg) (hs : s ≤ 8) (hg : g.length + 1 < 4 + 2 * s) :
 Calls Tryz.prog 119 #[i64 n, ptr pg, ptr po, ptr px] w fun e w' => e = .returned (.tuple #[]) ∧ ∃ A' c', Blk w' pg 22 [.slice A' (g.length + 1) c'] ∧ w'.ownsRow 0 3 1 (.slice A' (g.length + 1) c') (g.length + 1) (ints g ++ [i64 n]) ∧
  Keep (fun k => k = pg ∨ (Value.slice A 0 0).ownBlock = some k) w w' ∧ (∀ k, (Value.slice A' 0 0).ownBlock = some k → (Value.slice A 0 0).ownBlock = some k ∨ w.heap.size ≤ k) := by
 have q1 : (((g.length + 1 : Nat) : Int) == 4 + 2 * (s : Int)) = false := by simp; omega
 have q2 : (((g.length : Nat) : Int) + 1 == 4 + 2 * (s : Int)) = false := by simp; omega
 obtain ⟨i0, hti, hz0, hz1, hz2⟩ := info_parts info_int
 have HI := hid hti
 have HPG := hid hpg
 have HPO := hid hpo
 have HPX := hid hpx
 have HO := hid ho
 have hpxg : px ≠ pg := hpx.ne hpg (by decide)
 have qg := hpg.k1
 have qo := hpo.k1
 clear hti hpg hpo hpx ho
 go_enter Tryz.func119, Tryz.ntmps119
 go_wp2_with (at_builtin; refine wpl_append_own ?a1 (.tmp 5) (.tmp 7) 22 ?a2 (0) 3 i0 ?z 1 8 ?a3 ?a4 ?a5 ?a6 ?a7 ?a8 ?a9 (.slice A g.length c) (g.length) (ints g) ?a10 ?hown (⟨w.heap.size, 0, none⟩) (1) (1) ([i64 n]) ?a11 ?a12 ?hnews ?hone ?h63 ?hby ?hbase ?_; (case a1 => rfl); (case a2 => rfl); (case a3 => exact Tryz.underlying22); (case a4 => exact HI.out); (case a5 => exact hz0); (case a6 => exact hz1); (case a7 => exact hz2); (case a8 => rfl); (case a9 => decide); (case a10 => rfl); (case a11 => rfl); (case a12 => rfl); (case hown => exact own_alloc0 HO.out _); (case h63 => unfold maxLen; omega); (case hby => omega); (case hnews => exact news_at (Blk.made (by simp) rfl)); (case hone => simp [Value.oneCell']); (case hbase => omega); intro A9 c9 w9 hown9 hg9 hsl9; have TG := hid (grown_blk hg9 (HPG.out.alloc (.cells #[i64 n] 3)) (ownBlock_ne (own_alloc0 HO.out (.cells #[i64 n] 3)) (HPG.out.alloc _) (by decide))); have TP := hid (grown_blk hg9 (HPO.out.alloc (.cells #[i64 n] 3)) (ownBlock_ne (own_alloc0 HO.out (.cells #[i64 n] 3)) (HPO.out.alloc _) (by decide))); have TX := hid (grown_blk hg9 (HPX.out.alloc (.cells #[i64 n] 3)) (ownBlock_ne (own_alloc0 HO.out (.cells #[i64 n] 3)) (HPX.out.alloc _) (by decide))); have qg9 := TG.out.k1; have qp9 := TP.out.k1; have qx9 := TX.out.k1)
 have HOA := own_alloc0 HO.out (.cells #[i64 n] 3)
 have hkg : Keep (fun k => k = pg ∨ (Value.slice A 0 0).ownBlock = some k) w (w9.setCell ⟨pg, 0, none⟩ (.slice A9 (g.length + 1) c9)) := (Keep.grown ((Keep.refl _ w).alloc (.cells #[i64 n] 3)) hg9 (fun k _ e => Or.inr (by rw [← e]; cases A <;> rfl))).set _ _ (fun _ => Or.inl rfl)
 have TG2 := TG.out.set 0 (.slice A9 (g.length + 1) c9)
 have TO2 := ownsRow_other hown9 (a := ⟨pg, 0, none⟩) (.slice A9 (g.length + 1) c9) (fun e => ownBlock_ne hown9 TG.out (by decide) e.symm)
 have HKG := hid hkg
 have HTG := hid (show Blk (w9.setCell ⟨pg, 0, none⟩ (.slice A9 (g.length + 1) c9)) pg 22 [.slice A9 (g.length + 1) c9] from TG2)
 have HTO := hid TO2
 have HSL := hid hsl9.1
 have hpp9 := HKG.out.blk HPO.out (by rintro (h | h); exact hpog h; exact ownBlock_ne HO.out HPO.out (by decide) (by rw [← h]; cases A <;> rfl))
 have hpx9 := HKG.out.blk HPX.out (by rintro (h | h); exact (HPX.out.ne HPG.out (by decide)) h; exact ownBlock_ne HO.out HPX.out (by decide) (by rw [← h]; cases A <;> rfl))
 have HPP9 := hid hpp9
 have HPX9 := hid hpx9
 clear hkg TG2 TO2 hown9 hg9 hsl9 TG TP TX HOA qg9 qp9 qx9 qg qo hpp9 hpx9
 go_end0
 refine ⟨rfl, A9, c9, HTG.out, HTO.out, HKG.out, fun k e => ?_⟩
 rcases HSL.out k (by rw [← e]; cases A9 <;> rfl) with h | h
 · exact Or.inl (by rw [← h]; cases A <;> rfl)
 · exact Or.inr (by simp at h; omega)
def ClE (b s x : Nat) (left : Int) (nx tk : Value) (g : List Int) (w w' : World) : Prop :=
 (calmB s g = true → Blk w' x 110 [i64 (b : Int), i64 (s : Int), i64 (left - 1), nx, tk, i64 0, i64 (gsum s g 8), .bool true, i64 0, .bool true]) ∧ (calmB s g = false → (left - 1 = 0 → Blk w' x 110 [i64 (b : Int), i64 (s : Int), i64 (left - 1), nx, tk, i64 0, i64 (rd g 2), .bool false, i64 0, .bool true]) ∧ (¬ left - 1 = 0 → TryQ b s x (i64 (left - 1)) (i64 0) (i64 0) (.bool false) (i64 0) (.bool false) w w'))
theorem snap_closed (b s x gg c : Nat) (left : Int) (nx tk : Value) (g : List Int) (w : World) (hs : 1 ≤ s ∧ s ≤ 8) (hx : Blk w x 110 [i64 (b : Int), i64 (s : Int), i64 (left), nx, tk, i64 0, i64 (0), .bool false, i64 0, .bool false]) (hl : 1 ≤ left ∧ left ≤ 1000) (hg : g.length = 4 + 2 * s) (hc : 4 + 2 * s ≤ c) (hI : Ints w gg g) (hgx : gg ≠ x) (hb : b ≤ 1000000) :
 Calls Tryz.prog 120 #[ptr x, .slice (some ⟨gg, 0, none⟩) (4 + 2 * s) c] w fun e w' => e = .returned (.tuple #[]) ∧ Keep (fun k => k = x) w w' ∧ ClE b s x left nx tk g w w' := by
 cases hc2 : calmB s g with
 | true =>
  refine (snap_closed_yes b s x gg c left nx tk g w hs hx hl hg hc hI hgx hc2).mono ?_
  rintro e w' ⟨rfl, h1, h2⟩
  exact ⟨rfl, h1, fun _ => h2, fun h => by rw [hc2] at h; cases h⟩
 | false =>
  refine (snap_closed_no b s x gg c left nx tk g w hs hx hl hg hc hI hgx hb hc2).mono ?_
  rintro e w' ⟨rfl, h1, h2⟩
  exact ⟨rfl, h1, fun h => (by rw [hc2] at h; cases h), fun _ => h2⟩
theorem TryQ.before {b s x : Nat} {lf e1 e2 e3 e4 en : Value} {w0 w w' : World} (h : TryQ b s x lf e1 e2 e3 e4 en w w') (hz : w0.heap.size ≤ w.heap.size) : TryQ b s x lf e1 e2 e3 e4 en w0 w' := by
 obtain ⟨po, pg, px, go, oc, t1, t2, t3, t4, t5, t6, t7⟩ := h
 exact ⟨po, pg, px, go, oc, t1, t2, t3, t4, t5, ⟨Nat.le_trans hz t6.1, Nat.le_trans hz t6.2.1, Nat.le_trans hz t6.2.2.1, Nat.le_trans hz t6.2.2.2⟩, t7⟩
set_option maxHeartbeats 2000000 in
theorem snap_take_full (b s po pg px go oc x c : Nat) (left n : Int) (nx tk : Value) (g : List Int) (A : Option Addr) (w : World) (hpo : Blk w po 22 [.slice (some ⟨go, 0, none⟩) (4 + 2 * s) oc]) (hpg : Blk w pg 22 [.slice A g.length c]) (hpx : Blk w px 57 [ptr x]) (ho : w.ownsRow 0 3 1 (.slice A g.length c) g.length (ints g)) (hpog : po ≠ pg) (hs : 1 ≤ s ∧ s ≤ 8) (hg : g.length + 1 = 4 + 2 * s)
 (hx : Blk w x 110 [i64 (b : Int), i64 (s : Int), i64 (left), nx, tk, i64 0, i64 (0), .bool false, i64 0, .bool false]) (hl : 1 ≤ left ∧ left ≤ 1000) (hb : b ≤ 1000000) :
 Calls Tryz.prog 119 #[i64 n, ptr pg, ptr po, ptr px] w fun e w' => e = .returned (.tuple #[]) ∧ Keep (fun k => (k = pg ∨ (Value.slice A 0 0).ownBlock = some k) ∨ k = x) w w' ∧ ClE b s x left nx tk (g ++ [n]) w w' := by
 have q1 : (((g.length + 1 : Nat) : Int) == 4 + 2 * (s : Int)) = true := by simp; omega
 have q2 : (((g.length : Nat) : Int) + 1 == 4 + 2 * (s : Int)) = true := by simp; omega
 have HX := hid hx
 have HGL := hid hg
 have hgb : g.length ≤ 30 := by omega
 clear hx hg
 obtain ⟨i0, hti, hz0, hz1, hz2⟩ := info_parts info_int
 have HI := hid hti
 have HPG := hid hpg
 have HPO := hid hpo
 have HPX := hid hpx
 have HO := hid ho
 have hpxg : px ≠ pg := hpx.ne hpg (by decide)
 have qg := hpg.k1
 have qo := hpo.k1
 clear hti hpg hpo hpx ho
 go_enter Tryz.func119, Tryz.ntmps119
 go_wp2_with (at_builtin; refine wpl_append_own ?a1 (.tmp 5) (.tmp 7) 22 ?a2 (0) 3 i0 ?z 1 8 ?a3 ?a4 ?a5 ?a6 ?a7 ?a8 ?a9 (.slice A g.length c) (g.length) (ints g) ?a10 ?hown (⟨w.heap.size, 0, none⟩) (1) (1) ([i64 n]) ?a11 ?a12 ?hnews ?hone ?h63 ?hby ?hbase ?_; (case a1 => rfl); (case a2 => rfl); (case a3 => exact Tryz.underlying22); (case a4 => exact HI.out); (case a5 => exact hz0); (case a6 => exact hz1); (case a7 => exact hz2); (case a8 => rfl); (case a9 => decide); (case a10 => rfl); (case a11 => rfl); (case a12 => rfl); (case hown => exact own_alloc0 HO.out _); (case h63 => unfold maxLen; omega); (case hby => omega); (case hnews => exact news_at (Blk.made (by simp) rfl)); (case hone => simp [Value.oneCell']); (case hbase => omega); intro A9 c9 w9 hown9 hg9 hsl9; have TG := hid (grown_blk hg9 (HPG.out.alloc (.cells #[i64 n] 3)) (ownBlock_ne (own_alloc0 HO.out (.cells #[i64 n] 3)) (HPG.out.alloc _) (by decide))); have TP := hid (grown_blk hg9 (HPO.out.alloc (.cells #[i64 n] 3)) (ownBlock_ne (own_alloc0 HO.out (.cells #[i64 n] 3)) (HPO.out.alloc _) (by decide))); have TX := hid (grown_blk hg9 (HPX.out.alloc (.cells #[i64 n] 3)) (ownBlock_ne (own_alloc0 HO.out (.cells #[i64 n] 3)) (HPX.out.alloc _) (by decide))); have qg9 := TG.out.k1; have qp9 := TP.out.k1; have qx9 := TX.out.k1)
 have HOA := own_alloc0 HO.out (.cells #[i64 n] 3)
 have hkg : Keep (fun k => k = pg ∨ (Value.slice A 0 0).ownBlock = some k) w (w9.setCell ⟨pg, 0, none⟩ (.slice A9 (g.length + 1) c9)) := (Keep.grown ((Keep.refl _ w).alloc (.cells #[i64 n] 3)) hg9 (fun k _ e => Or.inr (by rw [← e]; cases A <;> rfl))).set _ _ (fun _ => Or.inl rfl)
 have TG2 := TG.out.set 0 (.slice A9 (g.length + 1) c9)
 have TO2 := ownsRow_other hown9 (a := ⟨pg, 0, none⟩) (.slice A9 (g.length + 1) c9) (fun e => ownBlock_ne hown9 TG.out (by decide) e.symm)
 have HKG := hid hkg
 have HTG := hid (show Blk (w9.setCell ⟨pg, 0, none⟩ (.slice A9 (g.length + 1) c9)) pg 22 [.slice A9 (g.length + 1) c9] from TG2)
 have HTO := hid TO2
 have HSL := hid hsl9.1
 have hpp9 := HKG.out.blk HPO.out (by rintro (h | h); exact hpog h; exact ownBlock_ne HO.out HPO.out (by decide) (by rw [← h]; cases A <;> rfl))
 have hpx9 := HKG.out.blk HPX.out (by rintro (h | h); exact (HPX.out.ne HPG.out (by decide)) h; exact ownBlock_ne HO.out HPX.out (by decide) (by rw [← h]; cases A <;> rfl))
 have HPP9 := hid hpp9
 have HPX9 := hid hpx9
 clear hkg TG2 TO2 hown9 hg9 hsl9 TG TP TX HOA qg9 qp9 qx9 qg qo hpp9 hpx9
 have hxp : x ≠ pg := HX.out.ne HPG.out (by decide)
 have hx9 := HKG.out.blk HX.out (by rintro (h | h); exact hxp h; exact ownBlock_ne HO.out HX.out (by decide) (by rw [← h]; cases A <;> rfl))
 have hg := HGL.out
 have hln : (g ++ [n]).length = g.length + 1 := by simp
 have hto := HTO.out
 rw [show ints g ++ [i64 n] = ints (g ++ [n]) from by simp [ints]] at hto
 obtain ⟨gg, rfl, hgg, _⟩ := ints_own hto (by omega) hln
 have hcc : 4 + 2 * s ≤ c9 := by
  rcases hto.2 with ⟨e, _⟩ | ⟨g2, cap, cur, e, _, _, hle, _⟩
  · cases e
  · cases e; omega
 have hgx : gg ≠ x := by
  rintro rfl
  obtain ⟨cur, h1, _⟩ := hgg
  have h2 : Blk _ gg 3 cur.toList := (show Blk (w9.setCell ⟨pg, 0, none⟩ (.slice (some ⟨gg, 0, none⟩) (g.length + 1) c9)) gg 3 cur.toList from by unfold Blk; simpa using h1)
  exact h2.ne hx9 (by decide) rfl
 have HCL := hid (snap_closed b s x gg c9 left nx tk (g ++ [n]) _ hs hx9 hl (by rw [hln]; exact hg) hcc hgg hgx hb)
 rw [← HGL.out] at HCL
 clear hto hgg hln hx9 hg
 generalize w9.setCell ⟨pg, 0, none⟩ (.slice (some ⟨gg, 0, none⟩) (g.length + 1) c9) = w10 at *
 refine HCL.out.mono ?_
 rintro e w11 ⟨rfl, hk, hce⟩
 have HK11 := hid hk
 have HCE := hid hce
 clear hk hce
 go_wp2_with fail
 go_end0
 have hz := HKG.out.size
 refine ⟨rfl, (HKG.out.mono (fun _ h => Or.inl h)).trans HK11.out (fun _ _ h => Or.inr h), HCE.out.1, fun h => ?_⟩
 obtain ⟨h1, h2⟩ := HCE.out.2 h
 exact ⟨h1, fun h3 => (h2 h3).before hz⟩
end Go.Proofs.YthaceckccobgeaaGreat


namespace Go.Proofs.YthaceckccobgeaaGreat
open Go.RowKit
set_option linter.unusedVariables false
set_option linter.unusedSimpArgs false
set_option maxRecDepth 100000
def WSn (P0 P1 P2 : World → Prop) (S : Nat → Bool) (wx : World) : Prop := (S 10 = false → P0 wx) ∧ (S 10 = true → S 11 = false → P1 wx) ∧ (S 11 = true → P2 wx)
theorem WSn.fixed {P0 P1 P2 : World → Prop} {S : Nat → Bool} {wx : World} {i : Nat} (h : WSn P0 P1 P2 S wx) (hi : i ≠ 10 ∧ i ≠ 11) : WSn P0 P1 P2 (upd S i) wx := by
 unfold WSn
 rw [show upd S i 10 = S 10 from by simp [upd, Ne.symm hi.1], show upd S i 11 = S 11 from by simp [upd, Ne.symm hi.2]]
 exact h
theorem WSn.loaded {P0 P1 P2 : World → Prop} {S : Nat → Bool} {wx w2 : World} (h : WSn P0 P1 P2 S wx) (h10 : S 10 = false) (h11 : S 11 = true → S 10 = true) (hp : P1 w2) : WSn P0 P1 P2 (upd S 10) w2 := by
 unfold WSn
 rw [show upd S 10 10 = true from by simp [upd], show upd S 10 11 = S 11 from by simp [upd]]
 refine ⟨fun h => (by cases h), fun _ _ => hp, fun e => ?_⟩
 have := h11 e
 rw [h10] at this
 cases this
theorem WSn.taken {P0 P1 P2 : World → Prop} {S : Nat → Bool} {wx w2 : World} (h : WSn P0 P1 P2 S wx) (h10 : S 10 = true) (hp : P2 w2) : WSn P0 P1 P2 (upd S 11) w2 := by
 unfold WSn
 rw [show upd S 11 11 = true from by simp [upd], show upd S 11 10 = S 10 from by simp [upd]]
 exact ⟨fun e => (by rw [h10] at e; cases e), fun _ e => (by cases e), fun _ => hp⟩
theorem WSn.x3 {P2 : World → Prop} {K : World → Prop} {Q : World → Prop} {P : World → Prop} {S : Nat → Bool} {wx : World} (h : WSn P K P2 S wx) (h11 : S 11 = false) (h0 : P wx → Q wx) (h1 : K wx → Q wx) : Q wx := by
 cases e : S 10 with
 | false => exact h0 (h.1 e)
 | true => exact h1 (h.2.1 e h11)
set_option maxHeartbeats 4000000 in
theorem snap_Step_go {B m a x v : Nat} {lv : Value} {W : List Int} {L : List Acc} {w : World} {b : Int} {c2 c3 c5 c6 c7 c8 : Value} {po pg px : Nat} (T : World → World → Prop) (fin : Bool) (hm : MemAt B w m a lv W L) (hx : Blk w x 110 [i64 (b : Int), c2, c3, .func (.func 118) #[] #[ptr po, ptr pg], .func (.func 119) #[] #[ptr pg, ptr po, ptr px], c5, c6, c7, c8, .bool false]) (hxf : ¬ MF m a lv x) (hv : v < W.length) (hL : L.length ≤ 1000000000)
 (hN : ∀ w1, Keep0 w w1 → Calls Tryz.prog 118 #[ptr po, ptr pg] w1 fun e w' => e = .returned (i64 ((v : Nat) : Int)) ∧ w1 = w')
 (hT : ∀ w1, Keep (MF m a lv) w w1 → Calls Tryz.prog 119 #[i64 (rd W v), ptr pg, ptr po, ptr px] w1 fun e w' => e = .returned (.tuple #[]) ∧ T w1 w')
 (hF : ∀ w1 w2, Keep (MF m a lv) w w1 → T w1 w2 → w2.cell? ⟨x, 9, none⟩ = some (.bool fin)) :
 Calls Tryz.prog 139 #[ptr x, ptr m] w fun e w' => e = .returned (.bool fin) ∧ ∃ lv1 w1, MemAt B w1 m a lv1 W (L ++ [⟨1, (v : Nat), rd W v, 0, false⟩]) ∧ Keep (MF m a lv) w w1 ∧ (∀ k, lv1.ownBlock = some k → lv.ownBlock = some k ∨ w.heap.size ≤ k) ∧ T w1 w' := by
 have HX := hid hx
 have HM := hid hm
 have HXF := hid hxf
 have HN := hid hN
 have HT := hid hT
 have HF := hid hF
 have qx := hx.k10
 clear hx hm hxf hN hT hF
 go_enter Tryz.func139, Tryz.ntmps139
 go_wp2_with fail
 apply wp_region_text (WI := WSn (fun wx => Keep0 w wx) (fun wx => ∃ lv1, MemAt B wx m a lv1 W (L ++ [⟨1, (v : Nat), rd W v, 0, false⟩]) ∧ Keep (MF m a lv) w wx ∧ (∀ k, lv1.ownBlock = some k → lv.ownBlock = some k ∨ w.heap.size ≤ k)) (fun wx => ∃ lv1 w1, MemAt B w1 m a lv1 W (L ++ [⟨1, (v : Nat), rd W v, 0, false⟩]) ∧ Keep (MF m a lv) w w1 ∧ (∀ k, lv1.ownBlock = some k → lv.ownBlock = some k ∨ w.heap.size ≤ k) ∧ T w1 wx)) (by kernel_rfl) (by kernel_rfl)
 case hob =>
  iterate 3
   apply Oblig.cons
   case h =>
    intro S w1 hwi hSi hd hcl
    apply StepOk.intro
    intro K hK
    go_simp
    apply hK
    · rfl
    · conv => (lhs; whnf)
    · exact hwi.fixed (by decide)
   simp only [put_lit, put_none]
   try dsimp only [List.set_cons_succ, List.set_cons_zero]
  apply Oblig.cons
  case h =>
   intro S w1 hwi hSi hd hcl
   apply StepOk.intro
   intro K hK
   have hlast : S 11 = false := by
    cases h : S 11 with
    | false => rfl
    | true => exact absurd ((hcl 11 _ rfl h) ⟨3, .data⟩ (by simp) rfl) (by rw [hSi]; decide)
   have hbx := WSn.x3 (Q := fun w1 => Blk w1 x _ _) hwi hlast (fun h => h.blk HX.out (fun e => e)) (fun h => h.choose_spec.2.1.blk HX.out HXF.out)
   have qx := hbx.k10
   go_simp
   apply hK
   · rfl
   · conv => (lhs; whnf)
   · exact hwi.fixed (by decide)
  simp only [put_lit, put_none]
  try dsimp only [List.set_cons_succ, List.set_cons_zero]
  iterate 4
   apply Oblig.cons
   case h =>
    intro S w1 hwi hSi hd hcl
    apply StepOk.intro
    intro K hK
    go_simp
    apply hK
    · rfl
    · conv => (lhs; whnf)
    · exact hwi.fixed (by decide)
   simp only [put_lit, put_none]
   try dsimp only [List.set_cons_succ, List.set_cons_zero]
  apply Oblig.cons
  case h =>
   intro S w1 hwi hSi hd hcl
   apply StepOk.intro
   intro K hK
   have h10 : S 10 = false := by
    cases h : S 10 with
    | false => rfl
    | true =>
     have h9 := (hcl 10 _ rfl h) ⟨9, .data⟩ (by simp) rfl
     have h8 := (hcl 9 _ rfl h9) ⟨8, .data⟩ (by simp) rfl
     rw [hSi] at h8
     cases h8
   have qx := ((hwi.1 h10).blk HX.out (fun e => e)).k10
   go_simp
   apply hK
   · rfl
   · conv => (lhs; whnf)
   · exact hwi.fixed (by decide)
  simp only [put_lit, put_none]
  try dsimp only [List.set_cons_succ, List.set_cons_zero]
  apply Oblig.cons
  case h =>
   intro S w1 hwi hSi hd hcl
   apply StepOk.intro
   intro K hK
   have h10 : S 10 = false := by
    cases h : S 10 with
    | false => rfl
    | true =>
     have h9 := (hcl 10 _ rfl h) ⟨9, .data⟩ (by simp) rfl
     rw [hSi] at h9
     cases h9
   go_simp
   refine (HN.out _ (hwi.1 h10)).mono ?_
   rintro e w2 ⟨rfl, rfl⟩
   apply hK
   · rfl
   · conv => (lhs; whnf)
   · exact hwi.fixed (by decide)
  simp only [put_lit, put_none]
  try dsimp only [List.set_cons_succ, List.set_cons_zero]
  apply Oblig.cons
  case h =>
   intro S w1 hwi hSi hd hcl
   apply StepOk.intro
   intro K hK
   go_simp
   refine (mem_Load (v : Int) (HM.out.same (hwi.1 hSi)) (by omega) (by omega) hL).mono ?_
   rintro e w2 ⟨rfl, hpo⟩
   rw [Int.toNat_natCast] at *
   apply hK
   · rfl
   · conv => (lhs; whnf)
   · exact hwi.loaded hSi (fun h => (hcl 11 _ rfl h) ⟨10, .data⟩ (by simp) rfl) (hpo.before (hwi.1 hSi))
  simp only [put_lit, put_none]
  try dsimp only [List.set_cons_succ, List.set_cons_zero]
  apply Oblig.cons
  case h =>
   intro S w1 hwi hSi hd hcl
   apply StepOk.intro
   intro K hK
   obtain ⟨lv1, k1, k2, k3⟩ := hwi.2.1 (hd ⟨10, .data⟩ (by simp) rfl) hSi
   go_simp
   refine (HT.out _ k2).mono ?_
   rintro e w2 ⟨rfl, htt⟩
   apply hK
   · rfl
   · conv => (lhs; whnf)
   · exact hwi.taken (hd ⟨10, .data⟩ (by simp) rfl) ⟨lv1, _, k1, k2, k3, htt⟩
  simp only [put_lit, put_none]
  try dsimp only [List.set_cons_succ, List.set_cons_zero]
  exact Oblig.nil
 case h0 =>
  exact ⟨fun _ => (Keep.refl _ _).drew, (fun h => by cases h), (fun h => by cases h)⟩
 case hend =>
  intro S wx hwi hall
  obtain ⟨lv1, w1, k1, k2, k3, htt⟩ := hwi.2.2 (hall 11 (by decide))
  have HTT := hid htt
  have HK1 := hid k1
  have HK2 := hid k2
  have HK3 := hid k3
  have cend := HF.out _ _ k2 htt
  clear hwi hall k1 k2 k3 htt qx
  go_wp2_with fail
  go_ret
  exact ⟨rfl, lv1, w1, HK1.out, HK2.out, HK3.out, HTT.out⟩
set_option maxHeartbeats 4000000 in
theorem snap_Step_peek {B m a x v : Nat} {lv : Value} {W : List Int} {L : List Acc} {w : World} {b : Int} {c2 c3 c5 c6 c7 c8 : Value} {pb px : Nat} (T : World → World → Prop) (fin : Bool) (hm : MemAt B w m a lv W L) (hx : Blk w x 110 [i64 (b : Int), c2, c3, .func (.func 108) #[] #[ptr pb], .func (.func 109) #[] #[ptr px], c5, c6, c7, c8, .bool false]) (hxf : ¬ MF m a lv x) (hv : v < W.length) (hL : L.length ≤ 1000000000)
 (hN : ∀ w1, Keep0 w w1 → Calls Tryz.prog 108 #[ptr pb] w1 fun e w' => e = .returned (i64 ((v : Nat) : Int)) ∧ w1 = w')
 (hT : ∀ w1, Keep (MF m a lv) w w1 → Calls Tryz.prog 109 #[i64 (rd W v), ptr px] w1 fun e w' => e = .returned (.tuple #[]) ∧ T w1 w')
 (hF : ∀ w1 w2, Keep (MF m a lv) w w1 → T w1 w2 → w2.cell? ⟨x, 9, none⟩ = some (.bool fin)) :
 Calls Tryz.prog 139 #[ptr x, ptr m] w fun e w' => e = .returned (.bool fin) ∧ ∃ lv1 w1, MemAt B w1 m a lv1 W (L ++ [⟨1, (v : Nat), rd W v, 0, false⟩]) ∧ Keep (MF m a lv) w w1 ∧ (∀ k, lv1.ownBlock = some k → lv.ownBlock = some k ∨ w.heap.size ≤ k) ∧ T w1 w' := by
 have HX := hid hx
 have HM := hid hm
 have HXF := hid hxf
 have HN := hid hN
 have HT := hid hT
 have HF := hid hF
 have qx := hx.k10
 clear hx hm hxf hN hT hF
 go_enter Tryz.func139, Tryz.ntmps139
 go_wp2_with fail
 apply wp_region_text (WI := WSn (fun wx => Keep0 w wx) (fun wx => ∃ lv1, MemAt B wx m a lv1 W (L ++ [⟨1, (v : Nat), rd W v, 0, false⟩]) ∧ Keep (MF m a lv) w wx ∧ (∀ k, lv1.ownBlock = some k → lv.ownBlock = some k ∨ w.heap.size ≤ k)) (fun wx => ∃ lv1 w1, MemAt B w1 m a lv1 W (L ++ [⟨1, (v : Nat), rd W v, 0, false⟩]) ∧ Keep (MF m a lv) w w1 ∧ (∀ k, lv1.ownBlock = some k → lv.ownBlock = some k ∨ w.heap.size ≤ k) ∧ T w1 wx)) (by kernel_rfl) (by kernel_rfl)
 case hob =>
  iterate 3
   apply Oblig.cons
   case h =>
    intro S w1 hwi hSi hd hcl
    apply StepOk.intro
    intro K hK
    go_simp
    apply hK
    · rfl
    · conv => (lhs; whnf)
    · exact hwi.fixed (by decide)
   simp only [put_lit, put_none]
   try dsimp only [List.set_cons_succ, List.set_cons_zero]
  apply Oblig.cons
  case h =>
   intro S w1 hwi hSi hd hcl
   apply StepOk.intro
   intro K hK
   have hlast : S 11 = false := by
    cases h : S 11 with
    | false => rfl
    | true => exact absurd ((hcl 11 _ rfl h) ⟨3, .data⟩ (by simp) rfl) (by rw [hSi]; decide)
   have hbx := WSn.x3 (Q := fun w1 => Blk w1 x _ _) hwi hlast (fun h => h.blk HX.out (fun e => e)) (fun h => h.choose_spec.2.1.blk HX.out HXF.out)
   have qx := hbx.k10
   go_simp
   apply hK
   · rfl
   · conv => (lhs; whnf)
   · exact hwi.fixed (by decide)
  simp only [put_lit, put_none]
  try dsimp only [List.set_cons_succ, List.set_cons_zero]
  iterate 4
   apply Oblig.cons
   case h =>
    intro S w1 hwi hSi hd hcl
    apply StepOk.intro
    intro K hK
    go_simp
    apply hK
    · rfl
    · conv => (lhs; whnf)
    · exact hwi.fixed (by decide)
   simp only [put_lit, put_none]
   try dsimp only [List.set_cons_succ, List.set_cons_zero]
  apply Oblig.cons
  case h =>
   intro S w1 hwi hSi hd hcl
   apply StepOk.intro
   intro K hK
   have h10 : S 10 = false := by
    cases h : S 10 with
    | false => rfl
    | true =>
     have h9 := (hcl 10 _ rfl h) ⟨9, .data⟩ (by simp) rfl
     have h8 := (hcl 9 _ rfl h9) ⟨8, .data⟩ (by simp) rfl
     rw [hSi] at h8
     cases h8
   have qx := ((hwi.1 h10).blk HX.out (fun e => e)).k10
   go_simp
   apply hK
   · rfl
   · conv => (lhs; whnf)
   · exact hwi.fixed (by decide)
  simp only [put_lit, put_none]
  try dsimp only [List.set_cons_succ, List.set_cons_zero]
  apply Oblig.cons
  case h =>
   intro S w1 hwi hSi hd hcl
   apply StepOk.intro
   intro K hK
   have h10 : S 10 = false := by
    cases h : S 10 with
    | false => rfl
    | true =>
     have h9 := (hcl 10 _ rfl h) ⟨9, .data⟩ (by simp) rfl
     rw [hSi] at h9
     cases h9
   go_simp
   refine (HN.out _ (hwi.1 h10)).mono ?_
   rintro e w2 ⟨rfl, rfl⟩
   apply hK
   · rfl
   · conv => (lhs; whnf)
   · exact hwi.fixed (by decide)
  simp only [put_lit, put_none]
  try dsimp only [List.set_cons_succ, List.set_cons_zero]
  apply Oblig.cons
  case h =>
   intro S w1 hwi hSi hd hcl
   apply StepOk.intro
   intro K hK
   go_simp
   refine (mem_Load (v : Int) (HM.out.same (hwi.1 hSi)) (by omega) (by omega) hL).mono ?_
   rintro e w2 ⟨rfl, hpo⟩
   rw [Int.toNat_natCast] at *
   apply hK
   · rfl
   · conv => (lhs; whnf)
   · exact hwi.loaded hSi (fun h => (hcl 11 _ rfl h) ⟨10, .data⟩ (by simp) rfl) (hpo.before (hwi.1 hSi))
  simp only [put_lit, put_none]
  try dsimp only [List.set_cons_succ, List.set_cons_zero]
  apply Oblig.cons
  case h =>
   intro S w1 hwi hSi hd hcl
   apply StepOk.intro
   intro K hK
   obtain ⟨lv1, k1, k2, k3⟩ := hwi.2.1 (hd ⟨10, .data⟩ (by simp) rfl) hSi
   go_simp
   refine (HT.out _ k2).mono ?_
   rintro e w2 ⟨rfl, htt⟩
   apply hK
   · rfl
   · conv => (lhs; whnf)
   · exact hwi.taken (hd ⟨10, .data⟩ (by simp) rfl) ⟨lv1, _, k1, k2, k3, htt⟩
  simp only [put_lit, put_none]
  try dsimp only [List.set_cons_succ, List.set_cons_zero]
  exact Oblig.nil
 case h0 =>
  exact ⟨fun _ => (Keep.refl _ _).drew, (fun h => by cases h), (fun h => by cases h)⟩
 case hend =>
  intro S wx hwi hall
  obtain ⟨lv1, w1, k1, k2, k3, htt⟩ := hwi.2.2 (hall 11 (by decide))
  have HTT := hid htt
  have HK1 := hid k1
  have HK2 := hid k2
  have HK3 := hid k3
  have cend := HF.out _ _ k2 htt
  clear hwi hall k1 k2 k3 htt qx
  go_wp2_with fail
  go_ret
  exact ⟨rfl, lv1, w1, HK1.out, HK2.out, HK3.out, HTT.out⟩
end Go.Proofs.YthaceckccobgeaaGreat


namespace Go.Proofs.YthaceckccobgeaaGreat
open Go.RowKit
set_option linter.unusedVariables false
set_option linter.unusedSimpArgs false
set_option maxRecDepth 100000
def ncs (b s : Nat) (nx tk : Value) (t : SN) : List Value := [i64 (b : Int), i64 (s : Int), i64 t.left, nx, tk, i64 0, i64 t.n, .bool t.ex, i64 0, .bool t.fin]
def TryAt (b s : Nat) (R : Nat → Prop) (w : World) (x : Nat) (nx tk : Value) (got : List Int) : Prop :=
 ∃ (po pg px go oc : Nat) (A : Option Addr) (c : Nat), nx = .func (.func 118) #[] #[ptr po, ptr pg] ∧ tk = .func (.func 119) #[] #[ptr pg, ptr po, ptr px] ∧ Blk w po 22 [.slice (some ⟨go, 0, none⟩) (4 + 2 * s) oc] ∧ Ints w go ((wl b s).map Int.ofNat) ∧ Blk w px 57 [ptr x] ∧
  Blk w pg 22 [.slice A got.length c] ∧ w.ownsRow 0 3 1 (.slice A got.length c) got.length (ints got) ∧ po ≠ pg ∧ (R po ∧ R pg ∧ R px ∧ R go) ∧ (∀ k, (Value.slice A 0 0).ownBlock = some k → R k ∧ k ≠ go)
structure SnR (b s : Nat) (R : Nat → Prop) (w : World) (x : Nat) (t : SN) : Prop where
 lt : ∀ k, R k → k < w.heap.size
 rx : R x
 at_ : ∃ nx tk, Blk w x 110 (ncs b s nx tk t) ∧ (t.fin = false → TryAt b s R w x nx tk t.got)
theorem own0 (A : Option Addr) (n c : Nat) : (Value.slice A n c).ownBlock = (Value.slice A 0 0).ownBlock := by cases A <;> rfl
section
variable {B : Nat} {w : World} {m a x : Nat} {lv : Value} {W : List Int} {L : List Acc} {b s : Nat} {R : Nat → Prop}
theorem TryAt.keep {S : Nat → Prop} {w' : World} {nx tk : Value} {got : List Int} (h : TryAt b s R w x nx tk got) (hk : Keep S w w') (hS : ∀ k, R k → ¬ S k) : TryAt b s R w' x nx tk got := by
 obtain ⟨po, pg, px, go, oc, A, c, e1, e2, h1, h2, h3, h4, h5, h6, h7, h8⟩ := h
 exact ⟨po, pg, px, go, oc, A, c, e1, e2, hk.blk h1 (hS _ h7.1), hk.ints h2 (hS _ h7.2.2.2), hk.blk h3 (hS _ h7.2.2.1), hk.blk h4 (hS _ h7.2.1), ownsRow_keep h5 hk (fun k hkk => hS k (h8 k ((own0 _ _ _).symm.trans hkk)).1), h6, h7, h8⟩
theorem SnR.keep {S : Nat → Prop} {w' : World} {t : SN} (h : SnR b s R w x t) (hk : Keep S w w') (hS : ∀ k, R k → ¬ S k) : SnR b s R w' x t := by
 obtain ⟨nx, tk, h1, h2⟩ := h.at_
 exact ⟨fun k hr => Nat.lt_of_lt_of_le (h.lt k hr) hk.size, h.rx, nx, tk, hk.blk h1 (hS _ h.rx), fun e => (h2 e).keep hk hS⟩
set_option maxHeartbeats 1000000 in
theorem snap_Step_end {c1 c2 c3 c4 c5 c6 c7 c8 c9 : Value} (hx : Blk w x 110 [c1, c2, c3, c4, c5, c6, c7, c8, c9, .bool true]) :
 Calls Tryz.prog 139 #[ptr x, ptr m] w fun e w' => e = .returned (.bool true) ∧ w = w' := by
 have qx := hx.k10
 clear hx
 go_enter Tryz.func139, Tryz.ntmps139
 go_wp2_with fail
 go_ret
 exact ⟨rfl, rfl⟩
def SnQ (B : Nat) (w : World) (m a : Nat) (lv : Value) (x b s : Nat) (R : Nat → Prop) (t : SN) (w' : World) : Prop :=
 ∃ lv' R', MemAt B w' m a lv' t.W t.L ∧ SnR b s R' w' x t ∧ Keep (fun k => MF m a lv k ∨ R k) w w' ∧ (∀ k, lv'.ownBlock = some k → lv.ownBlock = some k ∨ w.heap.size ≤ k) ∧ (∀ k, R' k → R k ∨ w.heap.size ≤ k) ∧ (∀ k, R' k → ¬ MF m a lv' k)
theorem mf_lt {k : Nat} (hm : MemAt B w m a lv W L) (h : MF m a lv k) : k < w.heap.size := by
 rcases h with h | h | h
 · have := hm.mem.lt; omega
 · have := hm.words.lt; omega
 · exact (hm.log.lt k h).2
theorem snQ_of {w1 w' : World} {lv1 : Value} {t : SN} {S : Nat → Prop} (hm1 : MemAt B w1 m a lv1 t.W t.L) (hk1 : Keep (MF m a lv) w w1) (ho1 : ∀ k, lv1.ownBlock = some k → lv.ownBlock = some k ∨ w.heap.size ≤ k) (hRl : ∀ k, R k → k < w.heap.size) (hRm : ∀ k, R k → ¬ MF m a lv k)
 (hkS : Keep S w1 w') (hS : ∀ k, S k → R k) (hn : SnR b s (fun k => R k ∨ (w1.heap.size ≤ k ∧ k < w'.heap.size)) w' x t) : SnQ B w m a lv x b s R t w' := by
 have hRm1 : ∀ k, R k → ¬ MF m a lv1 k := by
  intro k hr
  rintro (h | h | h)
  · exact hRm k hr (Or.inl h)
  · exact hRm k hr (Or.inr (Or.inl h))
  · rcases ho1 k h with h2 | h2
    · exact hRm k hr (Or.inr (Or.inr h2))
    · have := hRl k hr; omega
 have hz := hk1.size
 refine ⟨lv1, _, hm1.keep hkS (fun k h1 h2 => hRm1 k (hS k h2) h1), hn, (hk1.mono (fun _ h => Or.inl h)).trans hkS (fun _ _ h => Or.inr (hS _ h)), ho1, fun k h => h.imp id (fun h => Nat.le_trans hz h.1), fun k h => ?_⟩
 rcases h with h | h
 · exact hRm1 k h
 · exact fun h2 => by have := mf_lt hm1 h2; omega
set_option maxHeartbeats 1000000 in
theorem sn_Step (t : SN) (hm : MemAt B w m a lv t.W t.L) (hx : SnR b s R w x t) (hR : ∀ k, R k → ¬ MF m a lv k) (hi : NInv b s t) (hb : b ≤ 1000000) (hL : t.L.length ≤ 1000000000) :
 Calls Tryz.prog 139 #[ptr x, ptr m] w fun e w' => e = .returned (.bool (nStp b s t).2) ∧ SnQ B w m a lv x b s R (nStp b s t).1 w' := by
 show Calls _ _ _ _ (fun e w' => e = .returned (.bool (nNext b s t).fin) ∧ SnQ B w m a lv x b s R (nNext b s t) w')
 obtain ⟨nx, tk, hbx, htry⟩ := hx.at_
 cases hf : t.fin with
 | true =>
  have hbx' := hbx
  unfold ncs at hbx'
  rw [hf] at hbx'
  rw [nNext_over hf, hf]
  refine (snap_Step_end hbx').mono ?_
  rintro e w' ⟨rfl, rfl⟩
  exact ⟨rfl, lv, R, hm, hx, Keep.refl _ _, fun _ h => Or.inl h, fun _ h => Or.inl h, hR⟩
 | false =>
  obtain ⟨po, pg, px, go, oc, A, c, rfl, rfl, h1, h2, h3, h4, h5, h6, h7, h8⟩ := htry hf
  have hg := hi.gb hf
  have hl := hi.lb hf
  have hz := hi.z hf
  have hs := hi.s1
  have hwat := wat_bd (b := b) hs.1 hg
  have hln := hi.ln
  have hv : wat b s t.got.length < t.W.length := by omega
  have hcs : ncs b s (.func (.func 118) #[] #[ptr po, ptr pg]) (.func (.func 119) #[] #[ptr pg, ptr po, ptr px]) t = [i64 (b : Int), i64 (s : Int), i64 t.left, .func (.func 118) #[] #[ptr po, ptr pg], .func (.func 119) #[] #[ptr pg, ptr po, ptr px], i64 0, i64 0, .bool false, i64 0, .bool false] := by unfold ncs; rw [hz.1, hz.2, hf]
  rw [hcs] at hbx
  have hxf := hR x hx.rx
  have kS : ∀ {w1 : World}, Keep (MF m a lv) w w1 → Blk w1 x 110 [i64 (b : Int), i64 (s : Int), i64 t.left, .func (.func 118) #[] #[ptr po, ptr pg], .func (.func 119) #[] #[ptr pg, ptr po, ptr px], i64 0, i64 0, .bool false, i64 0, .bool false] ∧ Blk w1 po 22 [.slice (some ⟨go, 0, none⟩) (4 + 2 * s) oc] ∧ Blk w1 pg 22 [.slice A t.got.length c] ∧ Blk w1 px 57 [ptr x] ∧ w1.ownsRow 0 3 1 (.slice A t.got.length c) t.got.length (ints t.got) ∧ Ints w1 go ((wl b s).map Int.ofNat) := fun hk =>
   ⟨hk.blk hbx hxf, hk.blk h1 (hR _ h7.1), hk.blk h4 (hR _ h7.2.1), hk.blk h3 (hR _ h7.2.2.1), ownsRow_keep h5 hk (fun k hkk => hR k (h8 k ((own0 _ _ _).symm.trans hkk)).1), hk.ints h2 (hR _ h7.2.2.2)⟩
  have hN : ∀ w1, Keep0 w w1 → Calls Tryz.prog 118 #[ptr po, ptr pg] w1 fun e w' => e = .returned (i64 ((wat b s t.got.length : Nat) : Int)) ∧ w1 = w' := fun w1 hk =>
   snap_next b s po pg go oc t.got.length c A w1 (hk.blk h1 (fun h => h)) (hk.blk h4 (fun h => h)) (hk.ints h2 (fun h => h)) hg
  have hxpg : x ≠ pg := hbx.ne h4 (by decide)
  have hxA : (Value.slice A 0 0).ownBlock ≠ some x := fun e => ownBlock_ne h5 hbx (by decide) (by rw [own0, e])
  have hln1 : ∀ n : Int, (t.got ++ [n]).length = t.got.length + 1 := fun n => by simp
  have hin : ∀ n : Int, ints (t.got ++ [n]) = ints t.got ++ [i64 n] := fun n => by simp [ints]
  by_cases hfull : t.got.length + 1 = 4 + 2 * s
  · have e0 : nNext b s t = clN s { t with L := t.L ++ [⟨1, (wat b s t.got.length : Nat), rd t.W (wat b s t.got.length), 0, false⟩] } (t.got ++ [rd t.W (wat b s t.got.length)]) := by unfold nNext; rw [if_neg (by rw [hf]; decide), if_pos hfull]
    have hT : ∀ w1, Keep (MF m a lv) w w1 → Calls Tryz.prog 119 #[i64 (rd t.W (wat b s t.got.length)), ptr pg, ptr po, ptr px] w1 fun e w' => e = .returned (.tuple #[]) ∧ (Keep (fun k => (k = pg ∨ (Value.slice A 0 0).ownBlock = some k) ∨ k = x) w1 w' ∧ ClE b s x t.left (.func (.func 118) #[] #[ptr po, ptr pg]) (.func (.func 119) #[] #[ptr pg, ptr po, ptr px]) (t.got ++ [rd t.W (wat b s t.got.length)]) w1 w') := fun w1 hk => by
     obtain ⟨k1, k2, k3, k4, k5, _⟩ := kS hk
     exact snap_take_full b s po pg px go oc x c t.left _ _ _ t.got A w1 k2 k3 k4 k5 h6 hs hfull k1 ⟨hl, hi.lt⟩ hb
    have hSR : ∀ k, ((k = pg ∨ (Value.slice A 0 0).ownBlock = some k) ∨ k = x) → R k := by
     rintro k ((rfl | h) | rfl)
     · exact h7.2.1
     · exact (h8 k h).1
     · exact hx.rx
    have hWL := clN_W s { t with L := t.L ++ [⟨1, (wat b s t.got.length : Nat), rd t.W (wat b s t.got.length), 0, false⟩] } (t.got ++ [rd t.W (wat b s t.got.length)])
    have hfin : ∀ w1 w2, Keep (MF m a lv) w w1 → (Keep (fun k => (k = pg ∨ (Value.slice A 0 0).ownBlock = some k) ∨ k = x) w1 w2 ∧ ClE b s x t.left (.func (.func 118) #[] #[ptr po, ptr pg]) (.func (.func 119) #[] #[ptr pg, ptr po, ptr px]) (t.got ++ [rd t.W (wat b s t.got.length)]) w1 w2) → SnR b s (fun k => R k ∨ (w1.heap.size ≤ k ∧ k < w2.heap.size)) w2 x (nNext b s t) := by
     rintro w1 w2 hk1 ⟨hk2, hc1, hc2⟩
     have hz1 := hk1.size
     have hz2 := hk2.size
     refine ⟨?_, Or.inl hx.rx, ?_⟩
     · rintro k (h | h)
       · have := hx.lt k h; omega
       · exact h.2
     · rw [e0]
       generalize t.got ++ [rd t.W (wat b s t.got.length)] = g at *
       cases hcb : calmB s g with
       | true => exact ⟨_, _, by have h := hc1 hcb; simpa [clN, hcb, ncs] using h, fun e => by simp [clN, hcb] at e⟩
       | false =>
        obtain ⟨d1, d2⟩ := hc2 hcb
        by_cases hl0 : t.left - 1 = 0
        · exact ⟨_, _, by have h := d1 hl0; simpa [clN, hcb, ncs, hl0] using h, fun e => by simp [clN, hcb, hl0] at e⟩
        · obtain ⟨po', pg', px', go', oc', t1, t2, t3, t4, t5, t6, t7⟩ := d2 hl0
          refine ⟨_, _, by simpa [clN, hcb, ncs, hl0, hz.1, hz.2, hf] using t1, fun _ => ?_⟩
          have e5 : (clN s { t with L := t.L ++ [⟨1, (wat b s t.got.length : Nat), rd t.W (wat b s t.got.length), 0, false⟩] } g).got = [] := by simp [clN, hcb, hl0]
          rw [e5]
          exact ⟨po', pg', px', go', oc', none, 0, rfl, rfl, t2, t3, t4, t5, World.ownsRow_nil _ _ _ _, t7, ⟨Or.inr ⟨t6.1, t2.lt⟩, Or.inr ⟨t6.2.1, t5.lt⟩, Or.inr ⟨t6.2.2.1, t4.lt⟩, Or.inr ⟨t6.2.2.2, t3.lt⟩⟩, fun k e => by simp [Value.ownBlock] at e⟩
    refine (snap_Step_go (T := fun w1 w2 => Keep (fun k => (k = pg ∨ (Value.slice A 0 0).ownBlock = some k) ∨ k = x) w1 w2 ∧ ClE b s x t.left (.func (.func 118) #[] #[ptr po, ptr pg]) (.func (.func 119) #[] #[ptr pg, ptr po, ptr px]) (t.got ++ [rd t.W (wat b s t.got.length)]) w1 w2) (nNext b s t).fin hm hbx hxf hv hL hN hT (fun w1 w2 hk1 ht => by
     obtain ⟨_, _, hb9, _⟩ := (hfin w1 w2 hk1 ht).at_
     exact hb9.cell 9)).mono ?_
    rintro e w' ⟨rfl, lv1, w1, hm1, hk1, ho1, ht⟩
    refine ⟨rfl, snQ_of (w1 := w1) (S := fun k => (k = pg ∨ (Value.slice A 0 0).ownBlock = some k) ∨ k = x) (by rw [e0, hWL.1, hWL.2]; exact hm1) hk1 ho1 hx.lt hR ht.1 hSR (hfin w1 w' hk1 ht)⟩
  · have e0 : nNext b s t = { t with L := t.L ++ [⟨1, (wat b s t.got.length : Nat), rd t.W (wat b s t.got.length), 0, false⟩], got := t.got ++ [rd t.W (wat b s t.got.length)] } := by unfold nNext; rw [if_neg (by rw [hf]; decide), if_neg hfull]
    have hT : ∀ w1, Keep (MF m a lv) w w1 → Calls Tryz.prog 119 #[i64 (rd t.W (wat b s t.got.length)), ptr pg, ptr po, ptr px] w1 fun e w' => e = .returned (.tuple #[]) ∧ (∃ A' c', Blk w' pg 22 [.slice A' (t.got.length + 1) c'] ∧ w'.ownsRow 0 3 1 (.slice A' (t.got.length + 1) c') (t.got.length + 1) (ints t.got ++ [i64 (rd t.W (wat b s t.got.length))]) ∧ Keep (fun k => k = pg ∨ (Value.slice A 0 0).ownBlock = some k) w1 w' ∧ (∀ k, (Value.slice A' 0 0).ownBlock = some k → (Value.slice A 0 0).ownBlock = some k ∨ w1.heap.size ≤ k)) := fun w1 hk => by
     obtain ⟨k1, k2, k3, k4, k5, _⟩ := kS hk
     exact snap_take_more s po pg px go oc x c _ t.got A w1 k2 k3 k4 k5 h6 hs.2 (by omega)
    have hSR : ∀ k, (k = pg ∨ (Value.slice A 0 0).ownBlock = some k) → R k := by
     rintro k (rfl | h)
     · exact h7.2.1
     · exact (h8 k h).1
    have hSx : ¬ (x = pg ∨ (Value.slice A 0 0).ownBlock = some x) := by
     rintro (h | h)
     · exact hxpg h
     · exact hxA h
    refine (snap_Step_go (T := fun w1 w' => ∃ A' c', Blk w' pg 22 [.slice A' (t.got.length + 1) c'] ∧ w'.ownsRow 0 3 1 (.slice A' (t.got.length + 1) c') (t.got.length + 1) (ints t.got ++ [i64 (rd t.W (wat b s t.got.length))]) ∧ Keep (fun k => k = pg ∨ (Value.slice A 0 0).ownBlock = some k) w1 w' ∧ (∀ k, (Value.slice A' 0 0).ownBlock = some k → (Value.slice A 0 0).ownBlock = some k ∨ w1.heap.size ≤ k)) (nNext b s t).fin hm hbx hxf hv hL hN hT (fun w1 w2 hk1 ht => by
     obtain ⟨A', c', _, _, hk2, _⟩ := ht
     rw [e0]
     show _ = some (Value.bool t.fin)
     rw [hf]
     exact (hk2.blk (kS hk1).1 hSx).cell 9)).mono ?_
    rintro e w' ⟨rfl, lv1, w1, hm1, hk1, ho1, A', c', p1, p2, hk2, p3⟩
    have hz1 := hk1.size
    have hz2 := hk2.size
    obtain ⟨k1, k2, k3, k4, k5, k6⟩ := kS hk1
    refine ⟨rfl, snQ_of (w1 := w1) (S := fun k => k = pg ∨ (Value.slice A 0 0).ownBlock = some k) (by rw [e0]; exact hm1) hk1 ho1 hx.lt hR hk2 hSR ⟨?_, Or.inl hx.rx, .func (.func 118) #[] #[ptr po, ptr pg], .func (.func 119) #[] #[ptr pg, ptr po, ptr px], ?_, fun _ => ?_⟩⟩
    · rintro k (h | h)
      · have := hx.lt k h; omega
      · exact h.2
    · rw [e0]
      have h := hk2.blk k1 hSx
      simpa [ncs, hz.1, hz.2, hf] using h
    · rw [e0]
      show TryAt b s _ w' x _ _ (t.got ++ [rd t.W (wat b s t.got.length)])
      have hgol : go < w1.heap.size := k6.lt
      refine ⟨po, pg, px, go, oc, A', c', rfl, rfl, hk2.blk k2 ?_, hk2.ints k6 ?_, hk2.blk k4 ?_, by rw [hln1]; exact p1, by rw [hln1, hin]; exact p2, h6, ⟨Or.inl h7.1, Or.inl h7.2.1, Or.inl h7.2.2.1, Or.inl h7.2.2.2⟩, fun k e => ?_⟩
      · rintro (h | h)
        · exact h6 h
        · exact ownBlock_ne h5 h1 (by decide) (by rw [own0, h])
      · rintro (h | h)
        · obtain ⟨cur, hg1, _⟩ := h2
          exact (show Blk w go 3 cur.toList from by unfold Blk; simpa using hg1).ne h4 (by decide) h
        · exact (h8 go h).2 rfl
      · rintro (h | h)
        · exact h3.ne h4 (by decide) h
        · exact ownBlock_ne h5 h3 (by decide) (by rw [own0, h])
      · have hlt2 := (p2.lt k (by rw [own0, e])).2
        rcases p3 k e with h | h
        · exact ⟨Or.inl (h8 k h).1, (h8 k h).2⟩
        · exact ⟨Or.inr ⟨h, hlt2⟩, by omega⟩
end
end Go.Proofs.YthaceckccobgeaaGreat
