/- SnapAA: the texts SnapN, SnapT, SnapP, SnapQ, in one. -/
import Derived.Test.YtlkniogapdhcpaaRegionIn
import Derived.Test.YtlkniogapdhcpaaRefMem
import Derived.RangeFuncNested
import Derived.RangeFuncBound
import Derived.RangeFuncCalls
import Derived.RangeFuncLeaves
import Derived.Shelf.Abstract
import Derived.Shelf.RegionOpen
import Derived.WalkKit
import Derived.OwnWalkIn
import Derived.TacticsInMore
import Derived.LoopNIn
import Derived.LoopIn
import Derived.Maps.AppendAt
import Derived.Test.YtlkniogapdhcpaaPack
import Derived.Test.YtlkniogapdhcpaaPlay
import Derived.Laws.CopyOwn
namespace Go.Proofs.Ytlkniogapdhcpaa
open Go.RowKit Go.Shelf
set_option linter.unusedVariables false
set_option linter.unusedSimpArgs false
set_option maxRecDepth 100000
attribute [local go_sem] Oper.semAt_some
theorem wplIn_append_own {F : Fence} {n : Nat} {P : Program} {ops : Array Oper} {rest : List Oper} {o : Oper} {a : Act} {w : World} {Q : Exit → Act → World → Prop}
    (hgd : o.guard = none) (s x : Operand) (t : TypeId)
    (ho : o.op = .call { callee := .builtin .append, args := #[s, x], argTypes := #[t, t] })
    (base : Nat) (e : TypeId) (i : TypeInfo) (z : Value) (size bytes : Nat) (ht : P.underlying t = some (.slice e)) (hi : P.info? e = some i) (hz : i.zero = some z)
    (hsize : i.size = size) (hby : i.bytes = bytes) (hzs : z.cells.size = size) (hsz : 0 < size)
    (v : Value) (m0 : Nat) (xs : List Value) (hs : a.eval s = v) (hown : w.ownsRow base e size v m0 xs)
    (ad : Addr) (m c : Nat) (news : List Value) (hx : a.eval x = .slice (some ad) m c) (hl : news.length = m * size) (hnews : ∀ j u, news[j]? = some u → w.cell? (ad.add j) = some u) (h1 : ∀ u ∈ news, u.oneCell' = true)
    (h63 : m0 + m ≤ maxLen) (hbytes : (m0 + m) * bytes ≤ 140737488355328) (hbase : base ≤ w.heap.size)
    (h : ∀ A c' w', w'.ownsRow base e size (.slice A (m0 + m) c') (m0 + m) (xs ++ news) → w.grownBy w' v.ownBlock → (∀ k, (Value.slice A (m0 + m) c').ownBlock = some k → v.ownBlock = some k ∨ w.heap.size ≤ k) → wpListIn F n P ops Q rest (a.put o.dst (.slice A (m0 + m) c')) w') :
    wpListIn F n P ops Q (o :: rest) a w := by
  refine wpListIn_plain hgd fun K hK' => ?_
  obtain ⟨v', w', hr, h2, h3, h4⟩ := run_append_own (P := P) w base t o.type e i z size bytes ht hi hz hsize hby hzs hsz v m0 xs hown ad m c news hl hnews h1 h63 hbytes hbase
  have hnew : ∀ k, v'.ownBlock = some k → v.ownBlock = some k ∨ w.heap.size ≤ k := by
    intro k hk
    have hwas := hown
    rcases hwas.2 with ⟨rfl, rfl⟩ | ⟨g, cap, cur, rfl, _, hgg, hnc, _, hcs, _⟩
    · have hx0 : xs = [] := List.eq_nil_of_length_eq_zero (by simpa using hwas.1)
      subst hx0
      obtain ⟨v2, w2, hr2, h22, _, _⟩ := run_append_own (P := P) w w.heap.size t o.type e i z size bytes ht hi hz hsize hby hzs hsz _ 0 [] (World.ownsRow_nil _ _ _ _) ad m c news hl hnews h1 h63 hbytes (Nat.le_refl _)
      rw [hr] at hr2
      obtain ⟨rfl, rfl⟩ := Result.ok.inj hr2
      exact Or.inr (h22.lt k hk).1
    · subst hsize
      subst hby
      by_cases hroom : m0 + m ≤ cap
      · have hr2 := run_append_room (P := P) w t o.type e i ht hi g m0 cap cur hgg ad m c news hl hnews h1 hroom (by rw [hl, hcs, ← Nat.add_mul]; exact Nat.mul_le_mul_right _ hroom)
        rw [hr] at hr2
        obtain ⟨rfl, rfl⟩ := Result.ok.inj hr2
        exact Or.inl hk
      · have hr2 := run_append_grow (P := P) w t o.type e i z ht hi hz ⟨g, 0, none⟩ m0 cap xs hwas.1 (hwas.cells (g := g) rfl) ad m c news hl hnews (by omega) (by unfold maxLen at h63; omega) (growslice_fits (by omega) hbytes)
        rw [hr] at hr2
        obtain ⟨rfl, rfl⟩ := Result.ok.inj hr2
        simp [Value.ownBlock] at hk
        exact Or.inr (by omega)
  have hgo : K (a.put o.dst v') w' := by
    refine hK' _ _ ?_
    rcases h2.2 with ⟨rfl, hn⟩ | ⟨g, cap, cur, rfl, _⟩
    · have e0 : m0 + m = 0 := hn
      rw [e0] at h2
      have := h none 0 w' (by rw [e0]; exact h2) h3 (fun k hk => by simp [Value.ownBlock] at hk)
      rw [e0] at this
      exact this
    · exact h _ _ w' h2 h3 hnew
  unfold Oper.wpIn
  refine ⟨?_, ?_⟩
  · simp [Oper.about, ho, resolve, Target.leads, Sem.run_pure]
  · rw [Oper.semAt_plain F _ _ (by rw [ho]; intro c hc'; cases hc')]
    simp [execOp, ho, resolve, invoke, builtin, hs, hx, hr, Result.andThen]
    exact hgo
theorem own_alloc0 {w : World} {B : Nat} {e : TypeId} {size : Nat} {v : Value} {n : Nat} {xs : List Value} (h : w.ownsRow B e size v n xs) (o : Obj) : (w.alloc o).ownsRow B e size v n xs := ownsRow_keep (S := fun _ => False) h ((Keep.refl _ w).alloc o) (fun _ _ h => h)
/-- the words of a try, in order, from the counter's base on -/
def lst (i : Nat) : List Nat := (List.range i).map (fun j => 4 + j)
def lo (s : Nat) : Nat → List Nat
  | 0 => [1, 2, 0]
  | 1 => [1, 2, 0] ++ lst s ++ [1]
  | _ => [1, 2, 0] ++ lst s ++ [1] ++ lst s
theorem lst_succ (i : Nat) : lst (i + 1) = lst i ++ [4 + i] := by simp [lst, List.range_succ]
theorem lst_length (i : Nat) : (lst i).length = i := by simp [lst]
theorem lo_length (s r : Nat) (hr : r ≤ 2) : (lo s r).length = if r = 0 then 3 else if r = 1 then 4 + s else 4 + 2 * s := by
  have h : r = 0 ∨ r = 1 ∨ r = 2 := by omega
  rcases h with rfl | rfl | rfl <;> simp [lo, lst_length] <;> omega
def wl (b s : Nat) : List Nat := (lo s 2).map (fun j => b + j)
theorem len_snoc (l : List Nat) (x : Nat) : (l ++ [x]).length = l.length + 1 := by simp
theorem ints_snoc (l : List Nat) (x : Nat) : ints ((l ++ [x]).map Int.ofNat) = ints (l.map Int.ofNat) ++ [i64 ((x : Nat) : Int)] := by rw [List.map_append, ints, ints, List.map_append]; rfl
theorem wl_length (b s : Nat) : (wl b s).length = 4 + 2 * s := by simp [wl, lo_length]
/-- the block of the row that a cell holds -/
def ordB (A : World) (Bo : Nat) : Option Nat := (A.cell? ⟨Bo, 0, none⟩).bind Value.ownBlock
/-- what a round keeps: all cells but those of one variable, and of the row that it holds -/
structure SKp (Bo : Nat) (A B : World) : Prop where
  same : ∀ k o, A.heap[k]? = some o → o.isCells = true → k ≠ Bo → ordB A Bo ≠ some k → B.heap[k]? = some o
  row : ∀ j, ordB B Bo = some j → ordB A Bo = some j ∨ A.heap.size ≤ j
  size : A.heap.size ≤ B.heap.size
theorem SKp.refl (Bo : Nat) (A : World) : SKp Bo A A := ⟨fun _ _ h _ _ _ => h, fun _ h => Or.inl h, Nat.le_refl _⟩
theorem SKp.trans {Bo : Nat} {A B C : World} (h : SKp Bo A B) (k : SKp Bo B C) : SKp Bo A C := by
  refine ⟨fun j o h1 h2 h3 h4 => k.same j o (h.same j o h1 h2 h3 h4) h2 h3 (fun e => ?_), fun j e => ?_, Nat.le_trans h.size k.size⟩
  · rcases h.row j e with h5 | h5
    · exact h4 h5
    · have := (Array.getElem?_eq_some_iff.1 h1).1
      omega
  · rcases k.row j e with h5 | h5
    · exact h.row j h5
    · exact Or.inr (Nat.le_trans h.size h5)
theorem SKp.put {Bo : Nat} {W : World} {l : Nat} {o : Obj} (o' : Obj) (hl : Bo ≠ l) (ho : W.heap[l]? = some o) (hc : o.isCells = false) : SKp Bo W (W.putObj l o') := by
  have e0 : (W.putObj l o').cell? ⟨Bo, 0, none⟩ = W.cell? ⟨Bo, 0, none⟩ := World.cell?_of_block (World.putObj_heap_other hl)
  have e : ordB (W.putObj l o') Bo = ordB W Bo := by
    unfold ordB
    rw [e0]
  refine ⟨fun k o2 h1 h2 _ _ => ?_, fun j h => Or.inl (e ▸ h), (grownBy_putObj' W l o').size⟩
  have hne : k ≠ l := by
    rintro rfl
    rw [ho] at h1
    cases h1
    rw [hc] at h2
    cases h2
  exact (World.putObj_heap_other hne).trans h1
theorem SKp.blk {Bo b : Nat} {A B : World} {t : TypeId} {cs : List Value} (h : SKp Bo A B) (hb : Blk A b t cs) (h1 : b ≠ Bo) (h2 : ordB A Bo ≠ some b) : Blk B b t cs := h.same b _ hb rfl h1 h2
theorem SKp.ints {Bo g : Nat} {A B : World} {l : List Int} (h : SKp Bo A B) (hi : Ints A g l) (h1 : g ≠ Bo) (h2 : ordB A Bo ≠ some g) : Ints B g l := by
  obtain ⟨cur, a1, a2, a3⟩ := hi
  exact ⟨cur, h.same g _ a1 rfl h1 h2, a2, a3⟩
theorem lo_bd (s : Nat) (hs : s ≤ 8) : ∀ v ∈ lo s 2, v ≤ 11 := by
  intro v hv
  simp only [lo, List.mem_append, lst, List.mem_map, List.mem_range, List.mem_cons, List.not_mem_nil, or_false] at hv
  rcases hv with ((hv | ⟨j, hj, rfl⟩) | hv) | ⟨j, hj, rfl⟩ <;> omega
set_option maxHeartbeats 4000000 in
theorem snap_words1 (F : Fence) (n : Nat) (h7 : F.fn 55) (hro : F.round = none) (hn : 1 ≤ n) (l Bx x Bo : Nat) (b s : Nat) (r2 : List Value) (hs : s ≤ 8) (hb : b ≤ 1000000) (J Jx : List Nat → World → Prop) (W : World) (hJ : AbidesFrom W.heap.size J)
    (hY : ∀ pre v W, J pre W → pre.length < 4 + 2 * s → YieldAt F (n - 1) Try.prog l #[i64 ((v : Nat) : Int)] W fun e W' =>
      (e = .returned (.bool true) ∧ J (pre ++ [v]) W' ∧ SKp Bo W W') ∨ (e = .returned (.bool false) ∧ Jx (pre ++ [v]) W'))
    (hx : Blk W x 80 (i64 (b : Int) :: i64 (s : Int) :: r2)) (hbx : Blk W Bx 35 [ptr x]) (hx1 : x ≠ Bo) (hx2 : Bx ≠ Bo) (ho : W.cell? ⟨Bo, 0, none⟩ = some (.slice none 0 0)) (h0 : J [] W) :
    CallsIn F n Try.prog 55 #[.func (.yield l) #[] #[], ptr Bx] W fun e W' => (∃ v, e = .returned v) ∧
      ((∃ ys, ys = wl b s ∧ J ys W') ∨ (∃ pre, True ∧ Jx pre W')) := by
  obtain ⟨i0, hti, hz0, hz1, hz2⟩ := info_parts info_int
  have HI := hid hti
  clear hti
  have HX := hid hx
  have HBX := hid hbx
  have HO := hid ho
  have HJ := hid hJ
  have HY := hid hY
  have H0 := hid h0
  clear hx hbx ho hJ hY h0
  refine callsIn_of_wp Try.func55 rfl h7 ?_ hro
  simp only [Try.ntmps55, List.size_toArray, List.length_cons, List.length_nil, Nat.reduceAdd, Nat.reduceSub, Array.replicate_succ, Array.replicate_zero, List.push_toArray, List.append_toArray, List.nil_append, List.cons_append]
  gi_wp2
  have HR0 := hid (own_full (w := W.alloc (.cells #[i64 1, i64 2, i64 0] 3)) (B := W.heap.size) (g := W.heap.size) (W := [1, 2, 0]) (Blk.made rfl rfl) (Nat.le_refl _) (by simp))
  have HK0 := hid ((Keep.refl (fun _ => False) W).alloc (.cells #[i64 1, i64 2, i64 0] 3))
  generalize W.alloc (.cells #[i64 1, i64 2, i64 0] 3) = W0 at *
  gi_loopw [3, 8] (fun u v wr => ∃ r : Nat, r ≤ 2 ∧ v = .int .i64 r ∧ ∃ A1 c1, u = .slice A1 (lo s r).length c1 ∧ wr.ownsRow W.heap.size 3 1 (.slice A1 (lo s r).length c1) (lo s r).length (ints ((lo s r).map Int.ofNat)) ∧ Keep0 W wr) (fun _ v _ => 2 - (intOf v).toNat)
  case atStart => exact ⟨0, by omega, rfl, _, _, rfl, HR0.out, HK0.out⟩
  case round =>
    obtain ⟨r, hr, rfl, A1, c1, rfl, ho, hk⟩ := hrel
    have HOR := hid ho
    have HKR := hid hk
    have qx : wr.cell? ⟨x, 1, none⟩ = some (i64 (s : Int)) := (hk.blk HX.out (fun h => h)).cell 1
    have qb : wr.cell? ⟨Bx, 0, none⟩ = some (ptr x) := (hk.blk HBX.out (fun h => h)).cell 0
    clear ho hk HR0 HK0
    by_cases hlt : r < 2
    · have g0 : decide ((r : Int) < 2) = true := decide_eq_true (by omega)
      have hr01 : r = 0 ∨ r = 1 := by omega
      have HR01 := hid hr01
      clear hr01
      gi_wp2
      gi_loopw [3, 14] (fun u v wi => ∃ i : Nat, i ≤ s ∧ v = .int .i64 i ∧ ∃ A1 c1, u = .slice A1 (lo s r ++ lst i).length c1 ∧ wi.ownsRow W.heap.size 3 1 (.slice A1 (lo s r ++ lst i).length c1) (lo s r ++ lst i).length (ints ((lo s r ++ lst i).map Int.ofNat)) ∧ Keep0 W wi) (fun _ v _ => s - (intOf v).toNat)
      case atStart => exact ⟨0, by omega, rfl, A1, c1, by simp [lst], by simpa [lst] using HOR.out, HKR.out⟩
      case round =>
        obtain ⟨i, hi, rfl, A1, c1, rfl, ho, hk⟩ := hrel
        obtain ⟨wi, rfl⟩ : ∃ wi, wi = wr := ⟨_, rfl⟩
        have HOI := hid ho
        have HKI := hid hk
        have qx : wi.cell? ⟨x, 1, none⟩ = some (i64 (s : Int)) := (hk.blk HX.out (fun h => h)).cell 1
        have qb : wi.cell? ⟨Bx, 0, none⟩ = some (ptr x) := (hk.blk HBX.out (fun h => h)).cell 0
        clear ho hk
        by_cases hlt2 : i < s
        · have hlen9 : (lo s r ++ lst i).length ≤ 40 := by rw [List.length_append, lo_length s r (by omega), lst_length]; split <;> (try split) <;> omega
          have y1 : IntKind.i64.wrap (4 + (i : Int)) = ((4 + i : Nat) : Int) := by rw [show ((4 + i : Nat) : Int) = 4 + (i : Int) by push_cast; rfl]; exact IntWalk.i64_in _ (by omega)
          have HLS := hid (show lo s r ++ lst (i + 1) = (lo s r ++ lst i) ++ [4 + i] from by rw [lst_succ, List.append_assoc])
          gi_wp2_with (gi_at_builtin; refine wplIn_append_own ?a1 (.tmp 17) (.tmp 20) 33 ?a2 (W.heap.size) 3 i0 ?z 1 8 ?a3 ?a4 ?a5 ?a6 ?a7 ?a8 ?a9 (.slice A1 (lo s r ++ lst i).length c1) ((lo s r ++ lst i).length) (ints ((lo s r ++ lst i).map Int.ofNat)) ?a10 ?hown (⟨wi.heap.size, 0, none⟩) (1) (1) ([i64 ((4 + i : Nat) : Int)]) ?a11 ?a12 ?hnews ?hone ?h63 ?hby ?hbase ?_; (case a1 => rfl); (case a2 => rfl); (case a3 => exact Try.underlying33); (case a4 => exact HI.out); (case a5 => exact hz0); (case a6 => exact hz1); (case a7 => exact hz2); (case a8 => rfl); (case a9 => decide); (case a10 => rfl); (case a11 => rfl); (case a12 => rfl); (case hown => exact own_alloc0 HOI.out _); (case h63 => have := hlen9; unfold maxLen; omega); (case hby => have := hlen9; omega); (case hnews => exact news_at (Blk.made (by simp) rfl)); (case hone => simp [Value.oneCell']); (case hbase => have := HKI.out.size; simp; omega); intro A9 c9 w9 hown9 hg9 hsl9)
          have e1 : (lo s r ++ lst (i + 1)).length = (lo s r ++ lst i).length + 1 := by rw [HLS.out, len_snoc]
          have e2 : ints ((lo s r ++ lst (i + 1)).map Int.ofNat) = ints ((lo s r ++ lst i).map Int.ofNat) ++ [i64 ((4 + i : Nat) : Int)] := by rw [HLS.out, ints_snoc]
          have HO2 := hid (show w9.ownsRow W.heap.size 3 1 (.slice A9 (lo s r ++ lst (i + 1)).length c9) (lo s r ++ lst (i + 1)).length (ints ((lo s r ++ lst (i + 1)).map Int.ofNat)) from by rw [e1, e2]; exact hown9)
          have HKN : Hid (Keep0 W w9) := hid (Keep.grown (HKI.out.alloc (.cells #[i64 ((4 + i : Nat) : Int)] 3)) hg9 (fun k hk e => by have := (HOI.out.lt k e).1; omega))
          go_roundw
          case rel => exact ⟨i + 1, by omega, by go_num, A9, c9, by rw [e1, List.length_append], HO2.out, HKN.out⟩
          case measure => simp [intOf]; omega
        · obtain rfl : s = i := by omega
          have hlen9 : (lo s r ++ lst s).length ≤ 40 := by rw [List.length_append, lo_length s r (by omega), lst_length]; split <;> (try split) <;> omega
          have hln : (lo s r).length + (lst s).length = if r = 0 then 3 + s else 4 + 2 * s := by
            rw [lo_length s r (by omega), lst_length]
            split
            · rfl
            · rw [if_pos (by omega)]; omega
          have y1 : IntKind.i64.wrap (3 + (s : Int)) = 3 + (s : Int) := IntWalk.i64_in _ (by omega)
          have y2 : IntKind.i64.wrap ((r : Int) + 1) = (r : Int) + 1 := IntWalk.i64_in _ (by omega)
          rcases HR01.out with rfl | rfl
          · rw [if_pos rfl] at hln
            have hLL : (lo s 0 ++ lst s).length = 3 + s := by rw [List.length_append]; exact hln
            have HL1 := hid (show lo s 1 = (lo s 0 ++ lst s) ++ [1] from rfl)
            have hL2 : (lo s 1).length = 3 + s + 1 := by rw [HL1.out, len_snoc, hLL]
            have ho := HOI.out
            rw [hLL] at ho ⊢
            have HOJ := hid ho
            have HLL := hid hLL
            have HL2 := hid hL2
            have g1 : (((3 + s : Nat) : Int) == 3 + (s : Int)) = true := by simp
            clear ho hln hLL hL2 hlen9
            gi_wp2_with (gi_at_builtin; refine wplIn_append_own ?a1 (.tmp 31) (.tmp 32) 33 ?a2 (W.heap.size) 3 i0 ?z 1 8 ?a3 ?a4 ?a5 ?a6 ?a7 ?a8 ?a9 (.slice A1 (3 + s) c1) ((3 + s)) (ints ((lo s 0 ++ lst s).map Int.ofNat)) ?a10 ?hown (⟨wi.heap.size, 0, none⟩) (1) (1) ([i64 1]) ?a11 ?a12 ?hnews ?hone ?h63 ?hby ?hbase ?_; (case a1 => rfl); (case a2 => rfl); (case a3 => exact Try.underlying33); (case a4 => exact HI.out); (case a5 => exact hz0); (case a6 => exact hz1); (case a7 => exact hz2); (case a8 => rfl); (case a9 => decide); (case a10 => rfl); (case a11 => rfl); (case a12 => rfl); (case hown => exact own_alloc0 HOJ.out _); (case h63 => unfold maxLen; omega); (case hby => omega); (case hnews => exact news_at (Blk.made (by simp) rfl)); (case hone => simp [Value.oneCell']); (case hbase => have := HKI.out.size; simp; omega); intro A9 c9 w9 hown9 hg9 hsl9)
            have e2 : ints ((lo s 1).map Int.ofNat) = ints ((lo s 0 ++ lst s).map Int.ofNat) ++ [i64 1] := by rw [HL1.out, ints_snoc]; rfl
            have HO2 := hid (show w9.ownsRow W.heap.size 3 1 (.slice A9 (lo s 1).length c9) (lo s 1).length (ints ((lo s 1).map Int.ofNat)) from by rw [HL2.out, e2]; exact hown9)
            have HKN : Hid (Keep0 W w9) := hid (Keep.grown (HKI.out.alloc (.cells #[i64 1] 3)) hg9 (fun k hk e => by have := (HOJ.out.lt k e).1; omega))
            go_roundw
            case rel => exact ⟨1, by omega, by go_num, A9, c9, by rw [HL2.out], HO2.out, HKN.out⟩
            case measure => simp [intOf]
          · rw [if_neg (by omega)] at hln
            have hLL : (lo s 1 ++ lst s).length = 4 + 2 * s := by rw [List.length_append]; exact hln
            have hL2 : (lo s 2).length = 4 + 2 * s := by rw [lo_length s 2 (by omega)]; rfl
            have ho := HOI.out
            rw [hLL] at ho ⊢
            have HOJ := hid ho
            have HL2 := hid hL2
            have g1 : (((4 + 2 * s : Nat) : Int) == 3 + (s : Int)) = false := by simp; omega
            clear ho hln hLL hL2 hlen9
            gi_wp2
            have HO2 := hid (show wi.ownsRow W.heap.size 3 1 (.slice A1 (lo s 2).length c1) (lo s 2).length (ints ((lo s 2).map Int.ofNat)) from by rw [HL2.out]; exact HOJ.out)
            go_roundw
            case rel => exact ⟨2, by omega, by go_num, A1, c1, by rw [HL2.out], HO2.out, HKI.out⟩
            case measure => simp [intOf]
    · obtain rfl : r = 2 := by omega
      have hl2 : (lo s 2).length = 4 + 2 * s := by rw [lo_length s 2 (by omega)]; rfl
      have ho := HOR.out
      rw [hl2] at ho ⊢
      obtain ⟨gl, rfl, hgl, hgz⟩ := ints_own ho (by omega) (by simp [hl2])
      have HGL := hid hgl
      have hbz : Bo < W.heap.size := World.block_lt_of_cell? _ _ HO.out
      have H1 := hid (HJ.out [] W wr none H0.out ⟨HKR.out.os, HKR.out.tape, HKR.out.output, HKR.out.size, fun k hk _ => HKR.out.block k hk (fun h => h)⟩ (fun r e => by cases e))
      have horb : ordB wr Bo = none := by
        unfold ordB
        rw [cell_old HKR.out hbz (fun h => h) _, HO.out]
        rfl
      have HX1 := hid (HKR.out.blk HX.out (fun h => h))
      have HBX1 := hid (HKR.out.blk HBX.out (fun h => h))
      obtain ⟨W1, rfl⟩ : ∃ W1 : World, W1 = wr := ⟨_, rfl⟩
      have HL2 := hid hl2
      clear ho hgl HOR HKR HJ H0 HO HX HBX hlt qx qb hr hl2
      rw [show ((2 : Nat) : Int) = 2 from rfl]
      gi_wp2
      gi_loopw [37] (fun v wr => ∃ k : Nat, k ≤ 4 + 2 * s ∧ v = .int .i64 k ∧ J ((wl b s).take k) wr ∧ SKp Bo W1 wr) (fun v _ => 4 + 2 * s - (intOf v).toNat)
      case atStart => exact ⟨0, Nat.zero_le _, rfl, H1.out, SKp.refl _ _⟩
      case round =>
        obtain ⟨k, hk, rfl, hJk, hkp⟩ := hrel
        have HJK := hid hJk
        have HKP := hid hkp
        have qx : wr.cell? ⟨x, 0, none⟩ = some (i64 (b : Int)) := (hkp.blk HX1.out hx1 (by rw [horb]; exact fun h => by cases h)).cell 0
        have qb : wr.cell? ⟨Bx, 0, none⟩ = some (ptr x) := (hkp.blk HBX1.out hx2 (by rw [horb]; exact fun h => by cases h)).cell 0
        have HGR := hid (hkp.ints HGL.out (by omega) (by rw [horb]; exact fun h => by cases h))
        clear hJk hkp
        by_cases hlt : k < 4 + 2 * s
        · have hkl : k < (lo s 2).length := by rw [HL2.out]; exact hlt
          have hkw : k < (wl b s).length := by rw [wl_length]; exact hlt
          have c1 := HGR.out.cell k (by simpa using hkl)
          have c2 := HGR.out.lt
          have hwk : (wl b s)[k] = b + (lo s 2)[k] := by simp [wl]
          have htk := List.take_succ_eq_append_getElem hkw
          rw [hwk] at htk
          have hrd : rd ((lo s 2).map Int.ofNat) k = (((lo s 2)[k] : Nat) : Int) := by simp [rd, hkl]
          rw [hrd] at c1
          have hbd := lo_bd s hs _ (List.getElem_mem hkl)
          have HTK := hid htk
          generalize (lo s 2)[k] = lk at *
          have y1 : IntKind.i64.wrap ((b : Int) + (lk : Int)) = (b : Int) + (lk : Int) := IntWalk.i64_in _ (by omega)
          obtain ⟨fn, tmps, assign, body, hy, hR⟩ := HY.out _ (b + lk) wr HJK.out (by rw [List.length_take, wl_length]; omega)
          rw [show ((b + lk : Nat) : Int) = (b : Int) + (lk : Int) from by push_cast; rfl] at hy
          have HR := hid hR
          clear hR hrd hwk htk
          gi_wp2
          refine HR.out.mono ?_
          rintro e W3 (⟨rfl, hJ3, hk3⟩ | ⟨rfl, hJx3⟩)
          · gi_wp2
            go_roundw
            case rel => exact ⟨k + 1, by omega, by go_num, by rw [HTK.out]; exact hJ3, HKP.out.trans hk3⟩
            case measure => simp [intOf]; omega
          · gi_wp2
            refine bodyPost_ret (results_none rfl _ _ _) rfl ?_
            exact ⟨⟨_, rfl⟩, .inr ⟨_, trivial, hJx3⟩⟩
        · obtain rfl : k = 4 + 2 * s := by omega
          gi_wp2
          go_end0
          exact ⟨⟨_, rfl⟩, .inl ⟨_, rfl, by have h := HJK.out; rw [List.take_of_length_le (by rw [wl_length]; exact Nat.le_refl _)] at h; exact h⟩⟩
theorem snap_words_in (F : Fence) (n : Nat) (h5 : F.fn 43) (hro : F.round = none) (x : Nat) (w : World) :
    CallsIn F n Try.prog 43 #[ptr x] w fun e w' => e = .returned (.func (.func 55) #[] #[ptr w.heap.size]) ∧ w' = w.alloc (.cells #[ptr x] 35) := by
  refine callsIn_of_wp Try.func43 rfl h5 ?_ hro
  simp only [Try.ntmps43, List.size_toArray, List.length_cons, List.length_nil, Nat.reduceAdd, Nat.reduceSub, Array.replicate_succ, Array.replicate_zero, List.push_toArray, List.append_toArray, List.nil_append, List.cons_append]
  gi_wp2
  go_ret
  exact ⟨rfl, rfl⟩
end Go.Proofs.Ytlkniogapdhcpaa


namespace Go.Proofs.Ytlkniogapdhcpaa
open Go.RowKit Go.Shelf
set_option linter.unusedVariables false
set_option linter.unusedSimpArgs false
set_option maxRecDepth 100000
attribute [local go_sem] Oper.semAt_some
theorem snap_stops (F : Fence) (n : Nat) (h7 : F.fn 55) (hro : F.round = none) (hn : 1 ≤ n) (Bx x Bo b s : Nat) (r2 : List Value) (hs : s ≤ 8) (hb : b ≤ 1000000) (w : World)
    (hx : Blk w x 80 (i64 (b : Int) :: i64 (s : Int) :: r2)) (hbx : Blk w Bx 35 [ptr x]) (hx1 : x ≠ Bo) (hx2 : Bx ≠ Bo) (ho : w.cell? ⟨Bo, 0, none⟩ = some (.slice none 0 0)) :
    SeqStopsK F n Try.prog 55 #[ptr Bx] (fun v : Nat => #[Value.int .i64 (v : Nat)]) (SKp Bo) (fun ys => ys = wl b s) (fun _ => True) (4 + 2 * s) w := fun l J Jx W hW hJ _ hY h0 =>
  snap_words1 F n h7 hro hn l Bx x Bo b s r2 hs hb J Jx W hJ hY ((hW.block x hx.lt).trans hx) ((hW.block Bx hbx.lt).trans hbx) hx1 hx2 ((hW.cell (p := ⟨Bo, 0, none⟩) (World.block_lt_of_cell? _ _ ho)).trans ho) h0
@[go_sem] theorem store_func7 (P : Program) (w : World) (a : Addr) (m : Mode) (G : FuncId) (cs : Array Value) : (store a (.func (.func G) #[] cs) m).run P w = stored P w a (.func (.func G) #[] cs) m := run_store P w a _ m rfl
/-- between two rounds -/
def TryI (w : World) (x : Nat) (M : List Value) (pre : List Nat) (W : World) : Prop :=
  ∃ A c, Blk W (w.heap.size + 1) 33 [.slice A pre.length c] ∧ Blk W w.heap.size 35 [ptr x] ∧ Blk W x 80 M ∧ W.ownsRow (w.heap.size + 3) 3 1 (.slice A pre.length c) pre.length (ints (pre.map Int.ofNat)) ∧ w.heap.size + 3 ≤ W.heap.size ∧ Below w.heap.size w W
theorem keep_below7 {w w' : World} (h : Keep0 w w') : Below w.heap.size w w' := ⟨h.os, h.tape, h.output, h.size, fun k hk => h.block k hk (fun x => x)⟩
theorem own_cells7 {wx : World} {B : Nat} {v : Value} {n : Nat} {xs : List Value} (h : wx.ownsRow B 3 1 v n xs) : ∀ (j : Nat) (o : Obj), v.ownBlock = some j → wx.heap[j]? = some o → o.isCells = true := by
  intro j o e ho
  rcases h.2 with ⟨rfl, _⟩ | ⟨g, cap, cur, rfl, _, hgb, _⟩
  · simp [Value.ownBlock] at e
  · have e2 : g = j := by simpa [Value.ownBlock] using e
    rw [e2, ho] at hgb
    cases hgb
    rfl
theorem own_base7 {w : World} {B B' : Nat} {e : TypeId} {size : Nat} {v : Value} {n : Nat} {xs : List Value} (h : w.ownsRow B e size v n xs) (hb : B' ≤ B) : w.ownsRow B' e size v n xs := by
  obtain ⟨h1, h2⟩ := h
  refine ⟨h1, ?_⟩
  rcases h2 with h2 | ⟨g, cap, cur, h3, h4, h5⟩
  · exact .inl h2
  · exact .inr ⟨g, cap, cur, h3, Nat.le_trans hb h4, h5⟩
set_option maxHeartbeats 4000000 in
theorem snap_try_in (b s x : Nat) (lf nx tk e1 e2 e3 e4 en : Value) (w : World) (hs : s ≤ 8) (hb : b ≤ 1000000) (hx : Blk w x 80 [i64 (b : Int), i64 (s : Int), lf, nx, tk, e1, e2, e3, e4, en]) :
    CallsIn Fence.wide 6 Try.prog 32 #[ptr x] w fun e w' => e = .returned (.tuple #[]) ∧ ∃ po pg px go oc, Blk w' x 80 [i64 (b : Int), i64 (s : Int), lf, .func (.func 44) #[] #[ptr po, ptr pg], .func (.func 45) #[] #[ptr pg, ptr po, ptr px], e1, e2, e3, e4, en] ∧ Blk w' po 33 [.slice (some ⟨go, 0, none⟩) (4 + 2 * s) oc] ∧ Ints w' go ((wl b s).map Int.ofNat) ∧
      Blk w' px 35 [ptr x] ∧ Blk w' pg 33 [.slice none 0 0] ∧ (w.heap.size ≤ po ∧ w.heap.size ≤ pg ∧ w.heap.size ≤ px ∧ w.heap.size ≤ go) ∧ po ≠ pg ∧ Keep (fun k => k = x) w w' := by
  have HX := hid hx
  clear hx
  refine callsIn_of_wp_marks Try.func32 rfl trivial ?_ rfl
  simp only [Try.ntmps32, List.size_toArray, List.length_cons, List.length_nil, Nat.reduceAdd, Nat.reduceSub, Array.replicate_succ, Array.replicate_zero, List.push_toArray, List.append_toArray, List.nil_append, List.cons_append]
  gi_wp2
  refine ⟨trivial, ?_⟩
  have hp1 : Blk ((w.alloc (.cells #[ptr x] 35)).alloc (.cells #[.slice none 0 0] 33)) w.heap.size 35 [ptr x] := (Blk.made rfl rfl).alloc _
  have hp2 : Blk ((w.alloc (.cells #[ptr x] 35)).alloc (.cells #[.slice none 0 0] 33)) (w.heap.size + 1) 33 [.slice none 0 0] := Blk.made (by simp) rfl
  have hk2 : Keep0 w ((w.alloc (.cells #[ptr x] 35)).alloc (.cells #[.slice none 0 0] 33)) := ((Keep.refl _ _).alloc _).alloc _
  have hs2 : ((w.alloc (.cells #[ptr x] 35)).alloc (.cells #[.slice none 0 0] 33)).heap.size = w.heap.size + 2 := by simp
  generalize (w.alloc (.cells #[ptr x] 35)).alloc (.cells #[.slice none 0 0] 33) = w2 at *
  refine (snap_words_in Fence.wide _ trivial rfl _ _).mono ?_
  rintro e w' ⟨rfl, rfl⟩
  rw [hs2]
  have hp3 := hp1.alloc (.cells #[ptr x] 35)
  have ho3 := hp2.alloc (.cells #[ptr x] 35)
  have hb3 : Blk (w2.alloc (.cells #[ptr x] 35)) (w.heap.size + 2) 35 [ptr x] := Blk.made (by rw [hs2]) rfl
  have hk3 := hk2.alloc (.cells #[ptr x] 35)
  have hs3 : (w2.alloc (.cells #[ptr x] 35)).heap.size = w.heap.size + 3 := by simp [hs2]
  clear hp1 hp2 hk2 hs2
  generalize w2.alloc (.cells #[ptr x] 35) = w3 at *
  have hx3 := hk3.blk HX.out (fun h => h)
  have hxl := HX.out.lt
  have hI : OwnFrom w3.heap.size (TryI w x [i64 (b : Int), i64 (s : Int), lf, nx, tk, e1, e2, e3, e4, en]) := by
    rintro pre W W' row ⟨A, c, hb, hp, hm, ho, hw5, hbel⟩ hg hr
    have hrow : ∀ b T cs, Blk W b T cs → some b ≠ row := by
      intro b T cs h e
      obtain ⟨_, o, h1, h2⟩ := hr b e.symm
      unfold Blk at h
      rw [h] at h1
      cases h1
      cases h2
    refine ⟨A, c, (hg.block _ hb.lt (hrow _ _ _ hb)).trans hb, (hg.block _ hp.lt (hrow _ _ _ hp)).trans hp, (hg.block _ hm.lt (hrow _ _ _ hm)).trans hm, ho.kept hg ?_, Nat.le_trans hw5 hg.size, hbel.grown hg hbel.size (fun k e => by have := (hr k e).1; omega)⟩
    rcases ho.2 with ⟨h1, _⟩ | ⟨g, cap, cur, h1, _, hgb, _⟩
    · exact .inl (by rw [h1]; rfl)
    · refine .inr fun e' => ?_
      rw [h1] at e'
      obtain ⟨_, o, h3, h4⟩ := hr g (by simpa [Value.ownBlock] using e'.symm)
      rw [hgb] at h3
      cases h3
      cases h4
  gi_wp2
  refine wpIn_rangeFunc_ownF rfl (by omega) (gf := 55) (lb := #[ptr (w.heap.size + 2)]) rfl trivial (enters_of Try.func55 (by kernel_rfl) rfl)
    (snap_stops Fence.wide _ trivial rfl (by omega) (w.heap.size + 2) x (w.heap.size + 1) b s _ hs hb w3 hx3 hb3 (by omega) (by omega) (ho3.cell 0)) (fun h k => h.trans k) (fun W l o o' hl h hc _ => SKp.put o' (by omega) h hc) (Below.refl _ _) (fun _ => rfl)
    (TryI w x [i64 (b : Int), i64 (s : Int), lf, nx, tk, e1, e2, e3, e4, en]) (fun _ _ _ => False) hI (fun _ _ _ _ _ hs _ _ => hs)
    ⟨none, 0, ho3, hp3, hx3, World.ownsRow_nil _ _ _ _, by omega, keep_below7 hk3⟩
    (fun k => { tmps := #[ptr x, ptr w.heap.size, ptr (w.heap.size + 1), i64 ((k : Nat) : Int), undef, ptr x, .func (.func 55) #[] #[ptr (w.heap.size + 2)], i64 ((k : Nat) : Int), undef, undef, undef, undef, undef, undef, undef, undef, undef, undef, undef, undef], defers := [] }) ?assign ?body ?done ?stop
  case assign =>
    intro lq x W Kp hKp
    gi_wp2
    exact hKp
  case stop =>
    rintro D c pre W _ _ h _
    exact h.elim
  case done =>
    rintro D ys W hD rfl ⟨A, c, hb4, hp, hm, ho, hw5, hbel⟩ hKD
    have HB := hid hb4
    have HP := hid hp
    have HM := hid hm
    have HO := hid ho
    have HBE := hid hbel
    have qp := hp.k1
    have qm := hm.k10
    have hwx : x < w.heap.size := hxl
    clear hb4 hp hm ho hbel hI hx3 hb3 hk3 ho3 hp3
    gi_wp2
    have FX := (((HM.out.set 3 (.func (.func 44) #[] #[ptr (w.heap.size + 1), ptr W.heap.size])).set 4 (.func (.func 45) #[] #[ptr W.heap.size, ptr (w.heap.size + 1), ptr w.heap.size])).alloc (.cells #[.slice none 0 0] 33))
    have FO := ((HB.out.other (a := ⟨x, 3, none⟩) (.func (.func 44) #[] #[ptr (w.heap.size + 1), ptr W.heap.size]) (by show x ≠ w.heap.size + 1; omega)).other (a := ⟨x, 4, none⟩) (.func (.func 45) #[] #[ptr W.heap.size, ptr (w.heap.size + 1), ptr w.heap.size]) (by show x ≠ w.heap.size + 1; omega)).alloc (.cells #[.slice none 0 0] 33)
    have FP := ((HP.out.other (a := ⟨x, 3, none⟩) (.func (.func 44) #[] #[ptr (w.heap.size + 1), ptr W.heap.size]) (by show x ≠ w.heap.size; omega)).other (a := ⟨x, 4, none⟩) (.func (.func 45) #[] #[ptr W.heap.size, ptr (w.heap.size + 1), ptr w.heap.size]) (by show x ≠ w.heap.size; omega)).alloc (.cells #[.slice none 0 0] 33)
    have hkx := (((Keep.refl (fun k => k = x) W).set ⟨x, 3, none⟩ (.func (.func 44) #[] #[ptr (w.heap.size + 1), ptr W.heap.size]) (fun _ => rfl)).set ⟨x, 4, none⟩ (.func (.func 45) #[] #[ptr W.heap.size, ptr (w.heap.size + 1), ptr w.heap.size]) (fun _ => rfl)).alloc (.cells #[.slice none 0 0] 33)
    have FG : Blk (((W.setCell ⟨x, 3, none⟩ (.func (.func 44) #[] #[ptr (w.heap.size + 1), ptr W.heap.size])).setCell ⟨x, 4, none⟩ (.func (.func 45) #[] #[ptr W.heap.size, ptr (w.heap.size + 1), ptr w.heap.size])).alloc (.cells #[.slice none 0 0] 33)) W.heap.size 33 [.slice none 0 0] := Blk.made (by simp) rfl
    have hl := wl_length b s
    have ho := HO.out
    rw [hl] at ho FO
    obtain ⟨go, rfl, hgo, hgz⟩ := ints_own ho (by omega) (by simp [hl])
    have FI := hkx.ints hgo (show ¬ go = x by omega)
    have hDl : D < W.heap.size := (Array.getElem?_eq_some_iff.1 hKD).1
    have hDx : ¬ D = x := by omega
    have hKD2 := (hkx.block D hDl hDx).trans hKD
    have hkw : Keep (fun k => k = x) w W := ⟨HBE.out.os, HBE.out.tape, HBE.out.output, HBE.out.size, fun k hk _ => HBE.out.block k hk⟩
    have hkf := hkw.trans hkx (fun _ _ h => h)
    clear HM HB HP HO HBE hkx hkw hKD qp qm
    generalize ((W.setCell ⟨x, 3, none⟩ (.func (.func 44) #[] #[ptr (w.heap.size + 1), ptr W.heap.size])).setCell ⟨x, 4, none⟩ (.func (.func 45) #[] #[ptr W.heap.size, ptr (w.heap.size + 1), ptr w.heap.size])).alloc (.cells #[.slice none 0 0] 33) = WF at *
    have hne : ∀ b T cs, Blk WF b T cs → b ≠ D := by
      intro b T cs h e
      subst e
      unfold Blk at h
      rw [h] at hKD2
      cases hKD2
    have hng : go ≠ D := by
      rintro rfl
      obtain ⟨cur, h1, _⟩ := FI
      rw [h1] at hKD2
      cases hKD2
    refine ⟨by simp, .inl ⟨_, _, rfl, run_takeDeferred hKD2, ?_⟩⟩
    have FI2 : Ints (WF.putObj D (.deferred none)) go ((wl b s).map Int.ofNat) := by
      obtain ⟨cur, h1, h2, h3⟩ := FI
      exact ⟨cur, (World.putObj_heap_other hng).trans h1, h2, h3⟩
    refine ⟨_, results_none rfl _ _ _, rfl, w.heap.size + 1, W.heap.size, w.heap.size, go, c, (World.putObj_heap_other (hne _ _ _ FX)).trans FX, (World.putObj_heap_other (hne _ _ _ FO)).trans FO, FI2, (World.putObj_heap_other (hne _ _ _ FP)).trans FP, (World.putObj_heap_other (hne _ _ _ FG)).trans FG, ⟨by omega, by omega, Nat.le_refl _, by omega⟩, by omega, ?_⟩
    have hg := grownBy_putObj' WF D (.deferred none)
    exact Keep.grown hkf hg (fun k hk e => by cases e; omega)
  case body =>
    rintro lq pre k W ⟨A, c, hb4, hp, hm, ho, hw5, hbel⟩ hlen
    have HB := hid hb4
    have HP := hid hp
    have HM := hid hm
    have HO := hid ho
    have HBE := hid hbel
    have qb := hb4.k1
    obtain ⟨i0, hti, hz0, hz1, hz2⟩ := info_parts info_int
    have HI := hid hti
    have hwx : x < w.heap.size := hxl
    clear hb4 hp hm ho hbel hI hx3 hb3 hk3 ho3 hp3 hti
    gi_wp2_with (gi_at_builtin; refine wplIn_append_own ?a1 (.tmp 8) (.tmp 10) 33 ?a2 ((w.heap.size + 3)) 3 i0 ?z 1 8 ?a3 ?a4 ?a5 ?a6 ?a7 ?a8 ?a9 (.slice A pre.length c) (pre.length) (ints (pre.map Int.ofNat)) ?a10 ?hown (⟨W.heap.size, 0, none⟩) (1) (1) ([i64 ((k : Nat) : Int)]) ?a11 ?a12 ?hnews ?hone ?h63 ?hby ?hbase ?_; (case a1 => rfl); (case a2 => rfl); (case a3 => exact Try.underlying33); (case a4 => exact HI.out); (case a5 => exact hz0); (case a6 => exact hz1); (case a7 => exact hz2); (case a8 => rfl); (case a9 => decide); (case a10 => rfl); (case a11 => rfl); (case a12 => rfl); (case hown => exact own_alloc0 HO.out _); (case h63 => unfold maxLen; omega); (case hby => omega); (case hnews => exact news_at (Blk.made (by simp) rfl)); (case hone => simp [Value.oneCell']); (case hbase => simp; omega); intro A9 c9 w9 hown9 hg9 hsl9; have TB := hid (grown_blk hg9 (HB.out.alloc (.cells #[i64 ((k : Nat) : Int)] 3)) (ownBlock_ne (own_alloc0 HO.out (.cells #[i64 ((k : Nat) : Int)] 3)) (HB.out.alloc _) (by decide))); have qb9 := TB.out.k1)
    have HOA := own_alloc0 HO.out (.cells #[i64 ((k : Nat) : Int)] 3)
    have TP := grown_blk hg9 (HP.out.alloc (.cells #[i64 ((k : Nat) : Int)] 3)) (ownBlock_ne HOA (HP.out.alloc _) (by decide))
    have TM := grown_blk hg9 (HM.out.alloc (.cells #[i64 ((k : Nat) : Int)] 3)) (ownBlock_ne HOA (HM.out.alloc _) (by decide))
    have hW9 : W.heap.size + 1 ≤ w9.heap.size := by have := hg9.size; simpa using this
    have hbel9 : Below w.heap.size W w9 := ((Below.refl w.heap.size W).alloc (by have := HBE.out.size; exact this) (.cells #[i64 ((k : Nat) : Int)] 3)).grown hg9 (by simp; have := HBE.out.size; omega) (fun j e => by have := (HOA.lt j e).1; omega)
    have hord : ordB W (w.heap.size + 1) = (Value.slice A pre.length c).ownBlock := by unfold ordB; rw [HB.out.cell 0]; rfl
    refine ⟨(KeepsOthers.alloc _ _).trans ((KeepsOthers.of_grownBy hg9 (own_cells7 HOA)).trans (KeepsOthers.setCell _ _ _)), ⟨?_, ?_, ?_⟩, A9, c9, ?_, ?_, ?_, ?_, ?_, ?_⟩
    · intro j o h1 h2 h3 h4
      have hlt : j < W.heap.size := (Array.getElem?_eq_some_iff.1 h1).1
      rw [hord] at h4
      refine (Below.heap_setCell _ _ _ _ (fun e => h3 (by first | exact e | exact e.symm))).trans ((hg9.block j (by simp; omega) (fun e => h4 (by first | exact e | exact e.symm))).trans ((Below.heap_alloc _ _ _ hlt).trans h1))
    · intro j e
      have TBS := TB.out.set 0 (.slice A9 (pre.length + 1) c9)
      unfold ordB at e
      rw [TBS.cell 0] at e
      rw [hord]
      rcases hsl9 j e with h | h
      · exact Or.inl h
      · exact Or.inr (by simp at h; omega)
    · simpa using (show W.heap.size ≤ w9.heap.size by omega)
    · simpa using TB.out.set 0 (.slice A9 (pre.length + 1) c9)
    · exact TP.other _ (by show w.heap.size + 1 ≠ w.heap.size; omega)
    · exact TM.other _ (by show w.heap.size + 1 ≠ x; omega)
    · have h := ownsRow_other hown9 (a := ⟨w.heap.size + 1, 0, none⟩) (.slice A9 (pre.length + 1) c9) (fun e => ownBlock_ne hown9 TB.out (by decide) e.symm)
      rw [len_snoc, ints_snoc]
      exact h
    · simp; omega
    · exact (HBE.out.trans hbel9).setCell (by show w.heap.size ≤ w.heap.size + 1; omega) _
theorem snap_try (b s x : Nat) (lf nx tk e1 e2 e3 e4 en : Value) (w : World) (hs : s ≤ 8) (hb : b ≤ 1000000) (hx : Blk w x 80 [i64 (b : Int), i64 (s : Int), lf, nx, tk, e1, e2, e3, e4, en]) :
    Calls Try.prog 32 #[ptr x] w fun e w' => e = .returned (.tuple #[]) ∧ ∃ po pg px go oc, Blk w' x 80 [i64 (b : Int), i64 (s : Int), lf, .func (.func 44) #[] #[ptr po, ptr pg], .func (.func 45) #[] #[ptr pg, ptr po, ptr px], e1, e2, e3, e4, en] ∧ Blk w' po 33 [.slice (some ⟨go, 0, none⟩) (4 + 2 * s) oc] ∧ Ints w' go ((wl b s).map Int.ofNat) ∧
      Blk w' px 35 [ptr x] ∧ Blk w' pg 33 [.slice none 0 0] ∧ (w.heap.size ≤ po ∧ w.heap.size ≤ pg ∧ w.heap.size ≤ px ∧ w.heap.size ≤ go) ∧ po ≠ pg ∧ Keep (fun k => k = x) w w' := callsIn_wide.1 (snap_try_in b s x lf nx tk e1 e2 e3 e4 en w hs hb hx)
end Go.Proofs.Ytlkniogapdhcpaa


namespace Go.Proofs.Ytlkniogapdhcpaa
open Go.RowKit
set_option linter.unusedVariables false
set_option linter.unusedSimpArgs false
/-- what was loaded in a try, of stripe i from a place on; 0 behind the last stripe -/
def vw (s : Nat) (g : List Int) (o i : Nat) : Int := if i < s then rd g (o + i) else 0
/-- the sum of a try, with the first i stripes -/
def gsum (s : Nat) (g : List Int) : Nat → Int
  | 0 => rd g 2
  | i + 1 => wrap64 (gsum s g i + pVal (vw s g 3 i))
def viewB (s : Nat) (g : List Int) : Bool :=
  vw s g 3 0 == vw s g (4 + s) 0 && (vw s g 3 1 == vw s g (4 + s) 1 && (vw s g 3 2 == vw s g (4 + s) 2 && (vw s g 3 3 == vw s g (4 + s) 3 && (vw s g 3 4 == vw s g (4 + s) 4 && (vw s g 3 5 == vw s g (4 + s) 5 && (vw s g 3 6 == vw s g (4 + s) 6 && vw s g 3 7 == vw s g (4 + s) 7))))))
def calmB (s : Nat) (g : List Int) : Bool := rd g 0 == rd g 1 && (rd g 0 == rd g (3 + s) && viewB s g)
structure SN where
  W : List Int
  L : List Acc
  left : Int
  got : List Int
  n : Int
  ex : Bool
  fin : Bool
/-- a try is at its end -/
def clN (s : Nat) (t : SN) (g : List Int) : SN :=
  if calmB s g = true then { t with left := t.left - 1, got := g, n := gsum s g 8, ex := true, fin := true }
  else if t.left - 1 = 0 then { t with left := t.left - 1, got := g, n := rd g 2, ex := false, fin := true }
  else { t with left := t.left - 1, got := [] }
/-- the word that is loaded as the i-th one -/
def wat (b s i : Nat) : Nat := (wl b s).getD i 0
def nNext (b s : Nat) (t : SN) : SN :=
  if t.fin = true then t
  else if t.got.length + 1 = 4 + 2 * s then clN s { t with L := t.L ++ [⟨1, (wat b s t.got.length : Nat), rd t.W (wat b s t.got.length), 0, false⟩] } (t.got ++ [rd t.W (wat b s t.got.length)])
  else { t with L := t.L ++ [⟨1, (wat b s t.got.length : Nat), rd t.W (wat b s t.got.length), 0, false⟩], got := t.got ++ [rd t.W (wat b s t.got.length)] }
def nStp (b s : Nat) (t : SN) : SN × Bool := (nNext b s t, (nNext b s t).fin)
/-- a glance -/
def gNext (b : Nat) (t : SN) : SN :=
  if t.fin = true then t else { t with L := t.L ++ [⟨1, (b : Nat), rd t.W b, 0, false⟩], n := rd t.W b, fin := true }
def gStp (b : Nat) (t : SN) : SN × Bool := (gNext b t, (gNext b t).fin)
def nPk (t : SN) (i : Nat) (x : Int) : SN := { t with W := t.W.set i x }
/-- what holds of a machine -/
structure NInv (b s : Nat) (t : SN) : Prop where
  ln : b + 4 + s ≤ t.W.length
  wl : t.W.length ≤ 10000
  s1 : 1 ≤ s ∧ s ≤ 8
  gb : t.fin = false → t.got.length < 4 + 2 * s
  lb : t.fin = false → 1 ≤ t.left
  lt : t.left ≤ 1000
  z : t.fin = false → t.n = 0 ∧ t.ex = false
theorem wat_mem {b s i : Nat} (h : i < 4 + 2 * s) : ∃ v ∈ lo s 2, wat b s i = b + v := by
  have hl : i < (wl b s).length := by rw [wl_length]; exact h
  have e : wat b s i = (wl b s)[i] := by unfold wat; simp [hl]
  have h2 := List.getElem_mem hl
  rw [← e] at h2
  simp only [wl, List.mem_map] at h2
  obtain ⟨v, h3, h4⟩ := h2
  exact ⟨v, h3, h4.symm⟩
theorem wat_bd {b s i : Nat} (h1 : 1 ≤ s) (h : i < 4 + 2 * s) : b ≤ wat b s i ∧ wat b s i < b + 4 + s := by
  obtain ⟨v, hv, e⟩ := wat_mem (b := b) h
  simp only [lo, List.mem_append, lst, List.mem_map, List.mem_range, List.mem_cons, List.not_mem_nil, or_false] at hv
  rw [e]
  rcases hv with ((hv | ⟨j, hj, rfl⟩) | hv) | ⟨j, hj, rfl⟩ <;> omega
theorem nNext_over {b s : Nat} {t : SN} (h : t.fin = true) : nNext b s t = t := by unfold nNext; rw [if_pos h]
theorem gNext_over {b : Nat} {t : SN} (h : t.fin = true) : gNext b t = t := by unfold gNext; rw [if_pos h]
theorem clN_W (s : Nat) (t : SN) (g : List Int) : (clN s t g).W = t.W ∧ (clN s t g).L = t.L := by
  unfold clN
  split
  · exact ⟨rfl, rfl⟩
  · split <;> exact ⟨rfl, rfl⟩
theorem nNext_W (b s : Nat) (t : SN) : (nNext b s t).W = t.W := by
  unfold nNext
  split
  · rfl
  · split
    · rw [(clN_W _ _ _).1]
    · rfl
theorem nNext_L {b s : Nat} {t : SN} (h : t.fin = false) : (nNext b s t).L = t.L ++ [⟨1, (wat b s t.got.length : Nat), rd t.W (wat b s t.got.length), 0, false⟩] := by
  unfold nNext
  rw [if_neg (by rw [h]; decide)]
  split
  · rw [(clN_W _ _ _).2]
  · rfl
theorem NInv.poke {b s : Nat} {t : SN} (h : NInv b s t) (i : Nat) (x : Int) : NInv b s (nPk t i x) :=
  ⟨by simpa [nPk] using h.ln, by simpa [nPk] using h.wl, h.s1, h.gb, h.lb, h.lt, h.z⟩
theorem NInv.step {b s : Nat} {t : SN} (h : NInv b s t) : NInv b s (nNext b s t) := by
  by_cases hf : t.fin = true
  · rw [nNext_over hf]; exact h
  · have hf' : t.fin = false := by simpa using hf
    have hg := h.gb hf'
    have hl := h.lb hf'
    have hlt := h.lt
    have hz := h.z hf'
    unfold nNext
    rw [if_neg hf]
    split
    · unfold clN
      split
      · exact ⟨h.ln, h.wl, h.s1, fun e => (by cases e), fun e => (by cases e), by show t.left - 1 ≤ 1000; omega, fun e => (by cases e)⟩
      · split
        · exact ⟨h.ln, h.wl, h.s1, fun e => (by cases e), fun e => (by cases e), by show t.left - 1 ≤ 1000; omega, fun e => (by cases e)⟩
        · rename_i h0
          have h0' : ¬ t.left - 1 = 0 := h0
          exact ⟨h.ln, h.wl, h.s1, fun _ => (by show 0 < 4 + 2 * s; omega), fun _ => by show 1 ≤ t.left - 1; omega, by show t.left - 1 ≤ 1000; omega, fun _ => hz⟩
    · refine ⟨h.ln, h.wl, h.s1, fun _ => ?_, fun _ => hl, hlt, fun _ => hz⟩
      show (t.got ++ [rd t.W (wat b s t.got.length)]).length < 4 + 2 * s
      rw [List.length_append, List.length_singleton]
      omega
theorem NInv.start {b s : Nat} {W : List Int} {L : List Acc} {r : Int} (ln : b + 4 + s ≤ W.length) (wl : W.length ≤ 10000) (s1 : 1 ≤ s ∧ s ≤ 8) (hr : 1 ≤ r ∧ r ≤ 1000) : NInv b s ⟨W, L, r, [], 0, false, false⟩ :=
  ⟨ln, wl, s1, fun _ => (by show 0 < 4 + 2 * s; omega), fun _ => hr.1, hr.2, fun _ => ⟨rfl, rfl⟩⟩
theorem view8 (f : Nat → Int) (s : Nat) (h : s ≤ 8) : splice (List.replicate 8 (i64 0)) 0 ((List.range s).map (fun i => i64 (f i))) = [i64 (if 0 < s then f 0 else 0), i64 (if 1 < s then f 1 else 0), i64 (if 2 < s then f 2 else 0), i64 (if 3 < s then f 3 else 0), i64 (if 4 < s then f 4 else 0), i64 (if 5 < s then f 5 else 0), i64 (if 6 < s then f 6 else 0), i64 (if 7 < s then f 7 else 0)] := by
  have hs : s = 0 ∨ s = 1 ∨ s = 2 ∨ s = 3 ∨ s = 4 ∨ s = 5 ∨ s = 6 ∨ s = 7 ∨ s = 8 := by omega
  rcases hs with rfl | rfl | rfl | rfl | rfl | rfl | rfl | rfl | rfl <;> simp [splice, List.range_succ, List.replicate]
end Go.Proofs.Ytlkniogapdhcpaa


namespace Go.Proofs.Ytlkniogapdhcpaa
open Go.RowKit
set_option linter.unusedVariables false
set_option linter.unusedSimpArgs false
set_option maxRecDepth 100000
set_option maxHeartbeats 2000000 in
@[go_sem] theorem view_eq (a0 a1 a2 a3 a4 a5 a6 a7 d0 d1 d2 d3 d4 d5 d6 d7 : Int) (w : World) : (Op.equalIn 10000 110 (.agg #[i64 a0, i64 a1, i64 a2, i64 a3, i64 a4, i64 a5, i64 a6, i64 a7]) (.agg #[i64 d0, i64 d1, i64 d2, i64 d3, i64 d4, i64 d5, i64 d6, i64 d7])).run Try.prog w = .ok (a0 == d0 && (a1 == d1 && (a2 == d2 && (a3 == d3 && (a4 == d4 && (a5 == d5 && (a6 == d6 && a7 == d7))))))) w := by
  have u3 := Try.underlying3
  rw [show (10000 : Nat) = 9999 + 1 from rfl, Op.equalIn]
  simp only [Sem.run_bind, run_underlying Try.underlying110, Result.andThen_ok]
  simp only [Std.Legacy.Range.forIn_eq_forIn_range', Std.Legacy.Range.size, Nat.sub_zero, Nat.add_sub_cancel, Nat.div_one, List.range'_succ, List.range'_zero, List.forIn_cons, List.forIn_nil]
  go_simp
  by_cases h0 : a0 = d0
  case neg => simp [h0]
  by_cases h1 : a1 = d1
  case neg => simp [h0, h1]
  by_cases h2 : a2 = d2
  case neg => simp [h0, h1, h2]
  by_cases h3 : a3 = d3
  case neg => simp [h0, h1, h2, h3]
  by_cases h4 : a4 = d4
  case neg => simp [h0, h1, h2, h3, h4]
  by_cases h5 : a5 = d5
  case neg => simp [h0, h1, h2, h3, h4, h5]
  by_cases h6 : a6 = d6
  case neg => simp [h0, h1, h2, h3, h4, h5, h6]
  by_cases h7 : a7 = d7
  case neg => simp [h0, h1, h2, h3, h4, h5, h6, h7]
  simp [h0, h1, h2, h3, h4, h5, h6, h7]
@[go_sem] theorem view_ix0 (a0 a1 a2 a3 a4 a5 a6 a7 : Int) (w : World) : (Instr.index 110 (.agg #[i64 a0, i64 a1, i64 a2, i64 a3, i64 a4, i64 a5, i64 a6, i64 a7]) (.int .i64 0)).run Try.prog w = .ok (i64 a0) w := by kernel_rfl
@[go_sem] theorem view_ix1 (a0 a1 a2 a3 a4 a5 a6 a7 : Int) (w : World) : (Instr.index 110 (.agg #[i64 a0, i64 a1, i64 a2, i64 a3, i64 a4, i64 a5, i64 a6, i64 a7]) (.int .i64 1)).run Try.prog w = .ok (i64 a1) w := by kernel_rfl
@[go_sem] theorem view_ix2 (a0 a1 a2 a3 a4 a5 a6 a7 : Int) (w : World) : (Instr.index 110 (.agg #[i64 a0, i64 a1, i64 a2, i64 a3, i64 a4, i64 a5, i64 a6, i64 a7]) (.int .i64 2)).run Try.prog w = .ok (i64 a2) w := by kernel_rfl
@[go_sem] theorem view_ix3 (a0 a1 a2 a3 a4 a5 a6 a7 : Int) (w : World) : (Instr.index 110 (.agg #[i64 a0, i64 a1, i64 a2, i64 a3, i64 a4, i64 a5, i64 a6, i64 a7]) (.int .i64 3)).run Try.prog w = .ok (i64 a3) w := by kernel_rfl
@[go_sem] theorem view_ix4 (a0 a1 a2 a3 a4 a5 a6 a7 : Int) (w : World) : (Instr.index 110 (.agg #[i64 a0, i64 a1, i64 a2, i64 a3, i64 a4, i64 a5, i64 a6, i64 a7]) (.int .i64 4)).run Try.prog w = .ok (i64 a4) w := by kernel_rfl
@[go_sem] theorem view_ix5 (a0 a1 a2 a3 a4 a5 a6 a7 : Int) (w : World) : (Instr.index 110 (.agg #[i64 a0, i64 a1, i64 a2, i64 a3, i64 a4, i64 a5, i64 a6, i64 a7]) (.int .i64 5)).run Try.prog w = .ok (i64 a5) w := by kernel_rfl
@[go_sem] theorem view_ix6 (a0 a1 a2 a3 a4 a5 a6 a7 : Int) (w : World) : (Instr.index 110 (.agg #[i64 a0, i64 a1, i64 a2, i64 a3, i64 a4, i64 a5, i64 a6, i64 a7]) (.int .i64 6)).run Try.prog w = .ok (i64 a6) w := by kernel_rfl
@[go_sem] theorem view_ix7 (a0 a1 a2 a3 a4 a5 a6 a7 : Int) (w : World) : (Instr.index 110 (.agg #[i64 a0, i64 a1, i64 a2, i64 a3, i64 a4, i64 a5, i64 a6, i64 a7]) (.int .i64 7)).run Try.prog w = .ok (i64 a7) w := by kernel_rfl
theorem view_ix (AI : Nat → Int) (i : Nat) (h : i < 8) (w : World) : (Instr.index 110 (.agg #[i64 (AI 0), i64 (AI 1), i64 (AI 2), i64 (AI 3), i64 (AI 4), i64 (AI 5), i64 (AI 6), i64 (AI 7)]) (.int .i64 (i : Int))).run Try.prog w = .ok (i64 (AI i)) w := by
  have hi8 : i = 0 ∨ i = 1 ∨ i = 2 ∨ i = 3 ∨ i = 4 ∨ i = 5 ∨ i = 6 ∨ i = 7 := by omega
  rcases hi8 with rfl | rfl | rfl | rfl | rfl | rfl | rfl | rfl
  · exact view_ix0 _ _ _ _ _ _ _ _ w
  · exact view_ix1 _ _ _ _ _ _ _ _ w
  · exact view_ix2 _ _ _ _ _ _ _ _ w
  · exact view_ix3 _ _ _ _ _ _ _ _ w
  · exact view_ix4 _ _ _ _ _ _ _ _ w
  · exact view_ix5 _ _ _ _ _ _ _ _ w
  · exact view_ix6 _ _ _ _ _ _ _ _ w
  · exact view_ix7 _ _ _ _ _ _ _ _ w
end Go.Proofs.Ytlkniogapdhcpaa
