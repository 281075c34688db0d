/- MemLog: what the log tells makes the words again, if nothing was poked. -/
import Derived.Test.YtdjfeapncpcmgaaOpsRow
import Derived.Test.YtdjfeapncpcmgaaRefOps
import Derived.Test.YtdjfeapncpcmgaaGhost
namespace Go.Proofs.Ytdjfeapncpcmgaa
open Go.RowKit
set_option linter.unusedVariables false
set_option linter.unusedSimpArgs false

/-- the access that an operation is -/
def accOf (o : MOp) (W : List Int) : Acc :=
  if o.kind = 1 then ⟨1, o.w, rd W o.w.toNat, 0, false⟩ else if o.kind = 2 then ⟨2, o.w, o.a, wrap64 (rd W o.w.toNat + o.a), false⟩ else if o.kind = 3 then ⟨3, o.w, o.a, o.b, rd W o.w.toNat == o.a⟩ else ⟨4, o.w, o.a, 0, false⟩
/-- an access of a word that there is, no poke -/
def MOp.real (o : MOp) (K : Nat) : Prop := 1 ≤ o.kind ∧ o.kind ≤ 4 ∧ 0 ≤ o.w ∧ o.w < K
theorem opL_acc (o : MOp) (W : List Int) {K : Nat} (h : o.real K) : opL o W = [accOf o W] := by
  obtain ⟨h1, h2, _, _⟩ := h
  unfold opL accOf
  split
  · rfl
  · split
    · rfl
    · split
      · rfl
      · rw [if_pos (by omega)]
def runW (K : Nat) (O : List MOp) : List Int := O.foldl (fun W o => opW o W) (List.replicate K 0)
def runL (K : Nat) : List MOp → List Int → List Acc
  | [], _ => []
  | o :: O, W => accOf o W :: runL K O (opW o W)
theorem runW_snoc (K : Nat) (O : List MOp) (o : MOp) : runW K (O ++ [o]) = opW o (runW K O) := by simp [runW]
theorem foldW_length (O : List MOp) (W : List Int) : (O.foldl (fun W o => opW o W) W).length = W.length := by
  induction O generalizing W with
  | nil => rfl
  | cons o O ih => rw [List.foldl_cons, ih, opW_length]
theorem runW_length (K : Nat) (O : List MOp) : (runW K O).length = K := by rw [runW, foldW_length, List.length_replicate]
theorem runL_length (K : Nat) (O : List MOp) (W : List Int) : (runL K O W).length = O.length := by
  induction O generalizing W with
  | nil => rfl
  | cons o O ih => simp [runL, ih]
theorem runL_snoc (K : Nat) (O : List MOp) (o : MOp) (W : List Int) : runL K (O ++ [o]) W = runL K O W ++ [accOf o (O.foldl (fun W o => opW o W) W)] := by
  induction O generalizing W with
  | nil => rfl
  | cons p O ih => simp [runL, ih]
theorem runL_get (K : Nat) (O : List MOp) (W : List Int) (i : Nat) (h : i < O.length) : (runL K O W)[i]'(by rw [runL_length]; exact h) = accOf O[i] ((O.take i).foldl (fun W o => opW o W) W) := by
  induction O generalizing W i with
  | nil => simp at h
  | cons o O ih =>
    cases i with
    | zero => simp [runL]
    | succ i => simp only [runL, List.getElem_cons_succ, List.take_succ_cons, List.foldl_cons]; exact ih _ i (by simpa using h)
def opCells (O : List MOp) : List Value := O.flatMap MOp.cells
theorem opCells_snoc (O : List MOp) (o : MOp) : opCells (O ++ [o]) = opCells O ++ o.cells := by simp [opCells]
theorem opCells_get (O : List MOp) (i : Nat) (h : i < O.length) (f : Nat) (hf : f < 4) : (opCells O)[i * 4 + f]? = O[i].cells[f]? := by
  induction O generalizing i with
  | nil => simp at h
  | cons x L ih =>
    rw [show opCells (x :: L) = x.cells ++ opCells L from rfl]
    cases i with
    | zero => rw [List.getElem?_append_left (by simp [MOp.cells]; omega)]; simp
    | succ i =>
      rw [List.getElem?_append_right (by simp [MOp.cells]; omega), ← show (opCells L)[i * 4 + f]? = (x :: L)[i + 1].cells[f]? from by simpa using ih i (by simpa using h)]
      congr 1
      simp [MOp.cells]; omega
theorem info_op : (Try.prog.info? 28).map (fun i => (i.zero, i.size, i.bytes)) = some (some (.agg #[.int .i64 0, .int .i64 0, .int .i64 0, .int .i64 0]), 4, 32) := by kernel_rfl
theorem accOf_real (o : MOp) (W : List Int) {K : Nat} (h : o.real K) : ∃ xa xb xo, accOf o W = ⟨o.kind, o.w, xa, xb, xo⟩ ∧ (accOf o W).a = xa ∧ (accOf o W).b = xb ∧ (accOf o W).ok = xo := by
  obtain ⟨h1, h2, _, _⟩ := h
  refine ⟨_, _, _, ?_, rfl, rfl, rfl⟩
  unfold accOf
  split
  · rename_i e; rw [e]
  · split
    · rename_i e; rw [e]
    · split
      · rename_i e; rw [e]
      · have : o.kind = 4 := by omega
        rw [this]
theorem rd_set_same (W : List Int) (q : Nat) (x : Int) (h : q < W.length) : rd (W.set q x) q = x := by simp [rd, h]
theorem ops_of_row {w : World} {B : Nat} {A : Option Addr} {n c : Nat} {O : List MOp} (h : w.ownsRow B 28 4 (.slice A n c) n (opCells O)) (hn : n = O.length) : opsAt w A O := by
  rcases h.2 with ⟨e, h0⟩ | ⟨g, cap, cur, e, _, _, _⟩
  · left; rw [h0] at hn; exact List.eq_nil_of_length_eq_zero hn.symm
  · cases e
    refine Or.inr ⟨g, 0, rfl, fun i hi => ?_⟩
    have hc := h.cells (g := g) rfl
    have hg := fun f hf => (opCells_get O i hi f hf)
    have key : ∀ f u, f < 4 → O[i].cells[f]? = some u → w.cell? ⟨g, 0 + i * 4 + f, none⟩ = some u := fun f u hf hu => by
      have h1 := hc (i * 4 + f) u ((hg f hf).trans hu)
      rw [addr_add] at h1
      rw [Nat.zero_add]
      exact h1
    exact ⟨key 0 _ (by omega) rfl, key 1 _ (by omega) rfl, key 2 _ (by omega) rfl, key 3 _ (by omega) rfl⟩

set_option maxHeartbeats 40000000 in
set_option maxRecDepth 100000 in
theorem memLog_walk {w : World} (n : Int) (hn : (Lit.int .u8 n).wf = true) {v : Value} (hc : ∃ l, opsIn w v l) : Calls Try.prog 3 #[.int .u8 n, v] w (Ret (.bool true) w) := by
  obtain ⟨i0, hti, hz0, hz1, hz2⟩ := info_parts info_op
  have HI := hid hti
  clear hti
  obtain ⟨l, A, c, rfl, hl63, hl⟩ := hc
  have hn := bounds_u8 hn
  have HL := hid hl
  clear hl
  go_enter Try.func3, Try.ntmps3
  go_wp2_with fail
  refine (law3_head _).mono ?_
  rintro e w1 ⟨rfl, hk⟩
  have HK1 : Hid (Keep0 w w1) := hid (Keep0.step (by repeat (with_reducible first | exact Keep.refl _ _ | apply Keep.alloc | apply Keep.drewN | apply Keep.drew)) hk)
  clear hk
  by_cases h100 : 100 < l.length
  · go_wp2
    go_ret
    exact ⟨rfl, HK1.out⟩
  · have hl100 : l.length ≤ 100 := by omega
    have hk0 : 0 ≤ n % 20 := Int.emod_nonneg _ (by omega)
    have hk1 : n % 20 < 20 := Int.emod_lt_of_pos _ (by omega)
    go_wp2_with fail
    generalize n % 20 = kk at *
    obtain ⟨K, rfl⟩ := Int.eq_ofNat_of_zero_le hk0
    have hK : K < 20 := by omega
    refine (mem_New w.heap.size K _ HK1.out.size (by omega) (by omega)).mono ?_
    rintro e w2 ⟨m, a, lv2, rfl, hm, hk, hzm, hza⟩
    rw [Int.toNat_natCast] at hm
    have HM2 := hid hm
    have HK2 : Hid (Keep0 w w2) := hid (Keep0.step HK1.out hk)
    have hzm' := Nat.le_trans HK1.out.size hzm
    have hza' := Nat.le_trans HK1.out.size hza
    have HLL := hid (show ∀ (w' : World) lv (W : List Int) L, MemAt w.heap.size w' m a lv W L → ∀ k, MF m a lv k → w.heap.size ≤ k from by
      rintro w' lv W L h k (rfl | rfl | h2)
      · exact hzm'
      · exact hza'
      · exact (h.log.lt k h2).1)
    clear hm hk HK1
    have hw2 : w.heap.size ≤ w2.heap.size := HK2.out.size
    have hml2 : ∀ k, MF m a lv2 k → k < w2.heap.size := fun k h => MemAt.lt HM2.out k h
    have hM2m := HM2.out.mem.lt
    have hM2a := HM2.out.words.lt
    go_wp2_with fail
    go_loopw [8, 9] (fun v8 v wr => ∃ i : Nat, i ≤ l.length ∧ v = .int .i64 i ∧ ∃ lv O, O.length ≤ i ∧ (∀ o ∈ O, MOp.real o K) ∧ MemAt w.heap.size wr m a lv (runW K O) (runL K O (List.replicate K 0)) ∧
      w2.heap.size ≤ wr.heap.size ∧ (∃ A1 c1, v8 = .slice A1 O.length c1 ∧ wr.ownsRow w2.heap.size 28 4 (.slice A1 O.length c1) O.length (opCells O)) ∧ Keep0 w wr) (fun _ v _ => l.length - (intOf v).toNat)
    case atStart => exact ⟨0, Nat.zero_le _, rfl, lv2, [], Nat.zero_le _, by simp, HM2.out, Nat.le_refl _, ⟨none, 0, rfl, World.ownsRow_nil _ _ _ _⟩, HK2.out⟩
    case round =>
      obtain ⟨i, hi, rfl, lv, O, hO, hOr, hm, hwz, ⟨A1, c1, rfl, ho⟩, hk⟩ := hrel
      clear HM2 HK2
      have HM := hid hm
      have HOW := hid ho
      have HK := hid hk
      have HR := hid hOr
      clear hm ho hk hOr
      by_cases hlt : i < l.length
      · have hrow := (HL.out.keep HK.out).cell (by omega)
        obtain ⟨sb, so, rfl, hrow⟩ := hrow
        have q := hrow i hlt
        have HO := hid (fun w' (hk : Keep0 w w') => by
          have h := (HL.out.keep hk).cell (by omega)
          obtain ⟨b', o', e', h⟩ := h
          cases e'
          exact h i hlt)
        clear hrow
        obtain ⟨ok, ow, oa, ob, ho⟩ : ∃ ok ow oa ob, l[i] = MOp.mk ok ow oa ob := ⟨_, _, _, _, rfl⟩
        rw [ho] at q HO
        simp only at q HO
        clear ho
        go_wp2_with fail
        refine (law_right ⟨ok, ow, oa, ob⟩ K _).mono ?_
        rintro e w3 ⟨rfl, hk⟩
        have hw23 := Nat.le_trans hwz hk.size
        have HM3 := hid (HM.out.same hk)
        have HO3 := hid (ownsRow_keep HOW.out hk (fun _ _ h => h))
        have HK3 : Hid (Keep0 w w3) := hid (Keep0.step HK.out hk)
        have q3 := HO.out _ HK3.out
        clear hk HM HK HOW q
        cases hr : MOp.ok ⟨ok, ow, oa, ob⟩ K
        · go_wp2_with fail
          go_roundw
          case rel => exact ⟨i + 1, by omega, by go_num, lv, O, by omega, HR.out, HM3.out, hw23, ⟨A1, c1, rfl, HO3.out⟩, HK3.out⟩
          case measure => simp [intOf]; omega
        · cases h5 : (ok == 5)
          · go_wp2_with fail
            refine (law_done ⟨ok, ow, oa, ob⟩ K HM3.out (by rw [runW_length]) hr (by rw [runL_length]; omega)).mono ?_
            rintro e w4 ⟨rfl, lv4, hm, hk, _⟩
            have HK4w := hid (Nat.le_trans hw23 hk.size)
            have HK4 : Hid (Keep0 w w4) := hid (keep_far HK3.out hk (HLL.out _ _ _ _ HM3.out))
            have HO4 := hid (ownsRow_keep HO3.out hk (fun k h1 h2 => by
              have hb := (HO3.out.lt k h1).1
              rcases h2 with h | h | h
              · omega
              · omega
              · exact own_own_ne HO3.out HM3.out.log (by decide) k h1 h))
            have hreal : MOp.real ⟨ok, ow, oa, ob⟩ K := by
              simp only [MOp.ok, Bool.and_eq_true, decide_eq_true_eq] at hr
              have : ok ≠ 5 := by simpa using h5
              exact ⟨hr.1.1.1, by show ok ≤ 4; omega, hr.1.2, hr.2⟩
            have hm' := hm
            rw [opL_acc _ _ hreal, ← runW_snoc] at hm'
            have HM4 := hid hm'
            have HREAL := hid hreal
            have q4 := HO.out _ HK4.out
            clear hm hm' hk q3 HM3 HO3 HK3 hreal
            go_wp2_with (at_builtin; refine wpl_append_own ?a1 (.tmp 50) (.tmp 55) 22 ?a2 (w2.heap.size) 28 i0 ?z 4 32 ?a3 ?a4 ?a5 ?a6 ?a7 ?a8 ?a9 (.slice A1 O.length c1) (O.length) (opCells O) ?a10 ?hown (⟨w4.heap.size, 0, none⟩) (1) (1) ([i64 ok, i64 ow, i64 oa, i64 ob]) ?a11 ?a12 ?hnews ?hone ?h63 ?hby ?hbase ?_; (case a1 => rfl); (case a2 => rfl); (case a3 => exact Try.underlying22); (case a4 => exact HI.out); (case a5 => exact hz0); (case a6 => exact hz1); (case a7 => exact hz2); (case a8 => rfl); (case a9 => decide); (case a10 => rfl); (case a11 => rfl); (case a12 => rfl); (case hown => exact HO4.out.alloc _); (case h63 => unfold maxLen; omega); (case hby => omega); (case hnews => exact news_at (Blk.made rfl rfl)); (case hone => simp [Value.oneCell']); (case hbase => have := HK4.out.size; have := HM4.out.base; have := (HK4w.out); simp; omega); intro A5 c5 w5 hown5 hg5 hsl5; have HO5 := hid hown5; have HG5 := hid hg5; clear hown5 hg5 hsl5)
            have hk45 : Keep (fun k => (Value.slice A1 O.length c1).ownBlock = some k) w4 w5 := Keep.grown ((Keep.refl _ _).alloc _) HG5.out (fun _ _ h => h)
            have hw25 := Nat.le_trans HK4w.out hk45.size
            have HM5 := hid (HM4.out.keep hk45 (fun k h1 h2 => by
              have hb := (HO4.out.lt k h2).1
              rcases h1 with h | h | h
              · omega
              · omega
              · exact own_own_ne HO4.out HM4.out.log (by decide) k h2 h))
            have HK5 : Hid (Keep0 w w5) := hid (keep_far HK4.out hk45 (fun k h => Nat.le_trans hw2 (HO4.out.lt k h).1))
            have HRL := hid (runL_snoc K O ⟨ok, ow, oa, ob⟩ (List.replicate K 0))
            have HOC := hid (opCells_snoc O ⟨ok, ow, oa, ob⟩)
            clear hk45 HM4 HO4 HG5 HK4 q4
            go_roundw
            case rel =>
              refine ⟨i + 1, by omega, by go_num, lv4, O ++ [⟨ok, ow, oa, ob⟩], by simp; omega, ?_, by rw [HRL.out]; exact HM5.out, hw25, ⟨A5, c5, by simp, ?_⟩, HK5.out⟩
              · intro o ho
                rcases List.mem_append.1 ho with h | h
                · exact HR.out o h
                · rw [List.mem_singleton] at h
                  subst h
                  exact HREAL.out
              · rw [HOC.out, List.length_append]
                exact HO5.out
            case measure => simp [intOf]; omega
          · go_wp2_with fail
            go_roundw
            case rel => exact ⟨i + 1, by omega, by go_num, lv, O, by omega, HR.out, HM3.out, hw23, ⟨A1, c1, rfl, HO3.out⟩, HK3.out⟩
            case measure => simp [intOf]; omega
      · have hOK : O.length ≤ 100 := by omega
        have hOA := ops_of_row HOW.out rfl
        have HOA := hid hOA
        clear hOA HOW
        go_wp2_with fail
        refine (mem_Log HM.out (by rw [runL_length]; omega)).mono ?_
        rintro e w6 ⟨A6, c6, rfl, hla, hk⟩
        rw [runL_length]
        have HLA := hid hla
        have HOA6 := hid (HOA.out.keep hk)
        have HM6 := hid (HM.out.same hk)
        have HK6 : Hid (Keep0 w w6) := hid (Keep0.step HK.out hk)
        clear hla hk HOA HM HK
        obtain ⟨i1, hib, hy0, hy1, hy2⟩ := info_parts info_int
        have hmk := fun w => run_make (P := Try.prog) w 33 3 i1 (.int .i64 0) Try.underlying33 hib hy0 .i64 .i64 K K (by omega) (by omega) (by rw [hy2]; omega) (by omega)
        simp only [hy1, Nat.mul_one, made_ints, Int.toNat_natCast] at hmk
        clear hib hy0 hy1 hy2
        go_wp2_with fail
        have HV : Hid (Blk (w6.alloc (.cells (ints (List.replicate K 0)).toArray 3)) w6.heap.size 3 (ints (List.replicate K 0))) := hid (Blk.made rfl rfl)
        have HK67 : Hid (Keep0 w6 (w6.alloc (.cells (ints (List.replicate K 0)).toArray 3))) := hid ((Keep.refl _ _).alloc _)
        have HK7 : Hid (Keep0 w (w6.alloc (.cells (ints (List.replicate K 0)).toArray 3))) := hid (HK6.out.alloc _)
        have HM7 := hid (HM6.out.same HK67.out)
        have hmw : ∀ k, MF m a lv k → k ≠ w6.heap.size := fun k h => by have := MemAt.lt HM6.out k h; omega
        have hw6 := HK6.out.size
        clear HM6 HK6
        generalize w6.alloc (.cells (ints (List.replicate K 0)).toArray 3) = w7 at *
        go_loopw [12] (fun v wr => ∃ i : Nat, i ≤ O.length ∧ v = .int .i64 i ∧ Blk wr w6.heap.size 3 (ints (runW K (O.take i))) ∧ Keep (fun k => k = w6.heap.size) w7 wr) (fun v _ => O.length - (intOf v).toNat)
        case atStart => exact ⟨0, Nat.zero_le _, rfl, HV.out, Keep.refl _ _⟩
        case round =>
          obtain ⟨i, hi, rfl, hv, hk⟩ := hrel
          clear HV
          have HV := hid hv
          have HKR := hid hk
          clear hv hk
          by_cases hlt : i < O.length
          · obtain ⟨qb, qo, e1, hq⟩ := HOA6.out.cell (by omega)
            subst e1
            obtain ⟨pb, po, e2, hp⟩ := HLA.out.cell (by rw [runL_length]; omega)
            subst e2
            obtain ⟨ok, ow, oa, ob, ho⟩ : ∃ ok ow oa ob, O[i] = MOp.mk ok ow oa ob := ⟨_, _, _, _, rfl⟩
            have hreal := HR.out O[i] (List.getElem_mem hlt)
            rw [ho] at hreal
            obtain ⟨hk1, hk2, hw0, hwK⟩ := id hreal
            have hk1 : 1 ≤ ok := hk1
            have hk2 : ok ≤ 4 := hk2
            have hw0 : 0 ≤ ow := hw0
            have hwK : ow < K := hwK
            have hacc : (runL K O (List.replicate K 0))[i]'(by rw [runL_length]; exact hlt) = accOf ⟨ok, ow, oa, ob⟩ (runW K (O.take i)) := by rw [runL_get K O _ i hlt, ho]; rfl
            have hnx : runW K (O.take (i + 1)) = opW ⟨ok, ow, oa, ob⟩ (runW K (O.take i)) := by rw [List.take_succ_eq_append_getElem hlt, ho, runW_snoc]
            have HWL := hid (runW_length K (O.take i))
            generalize runW K (O.take i) = W at *
            obtain ⟨q, rfl⟩ := Int.eq_ofNat_of_zero_le hw0
            have hqK : q < K := by omega
            obtain ⟨xa, xb, xo, hx, hxa, hxb, hxo⟩ := accOf_real ⟨ok, (q : Int), oa, ob⟩ W hreal
            rw [hx] at hacc
            have HF : Hid (∀ wx, Keep (fun k => k = w6.heap.size) w7 wx → wx.cell? ⟨qb, qo + i * 4, none⟩ = some (i64 ok) ∧ wx.cell? ⟨qb, qo + i * 4 + 1, none⟩ = some (i64 (q : Int)) ∧ wx.cell? ⟨qb, qo + i * 4 + 2, none⟩ = some (i64 oa) ∧ wx.cell? ⟨qb, qo + i * 4 + 3, none⟩ = some (i64 ob) ∧ qb < wx.heap.size ∧ wx.cell? ⟨pb, po + i * 5, none⟩ = some (i64 ok) ∧ wx.cell? ⟨pb, po + i * 5 + 1, none⟩ = some (i64 (q : Int)) ∧ wx.cell? ⟨pb, po + i * 5 + 2, none⟩ = some (i64 xa) ∧ wx.cell? ⟨pb, po + i * 5 + 3, none⟩ = some (i64 xb) ∧ wx.cell? ⟨pb, po + i * 5 + 4, none⟩ = some (.bool xo) ∧ pb < wx.heap.size) := hid (fun wx hk => by
              have hk6 : Keep0 w6 wx := keep_far HK67.out hk (fun k e => by have e' : k = w6.heap.size := e; omega)
              have h1 := hq i hlt
              rw [ho] at h1
              obtain ⟨h10, h11, h12, h13, h14⟩ := h1
              have hl := fun f u hu => hp (i * 5 + f) u hu
              have g0 := hl 0 (i64 ok) (by rw [accs_get _ i (by rw [runL_length]; exact hlt) 0 (by omega), hacc]; rfl)
              have g1 := hl 1 (i64 (q : Int)) (by rw [accs_get _ i (by rw [runL_length]; exact hlt) 1 (by omega), hacc]; rfl)
              have g2 := hl 2 (i64 xa) (by rw [accs_get _ i (by rw [runL_length]; exact hlt) 2 (by omega), hacc]; rfl)
              have g3 := hl 3 (i64 xb) (by rw [accs_get _ i (by rw [runL_length]; exact hlt) 3 (by omega), hacc]; rfl)
              have g4 := hl 4 (.bool xo) (by rw [accs_get _ i (by rw [runL_length]; exact hlt) 4 (by omega), hacc]; rfl)
              have hpb := World.block_lt_of_cell? _ _ g0
              simp only at hpb
              simp only [← Nat.add_assoc, Nat.add_zero] at g0 g1 g2 g3 g4
              exact ⟨(cell_old hk6 h14 (fun h => h) _).trans h10, (cell_old hk6 h14 (fun h => h) _).trans h11, (cell_old hk6 h14 (fun h => h) _).trans h12, (cell_old hk6 h14 (fun h => h) _).trans h13, Nat.lt_of_lt_of_le h14 hk6.size, (cell_old hk6 hpb (fun h => h) _).trans g0, (cell_old hk6 hpb (fun h => h) _).trans g1, (cell_old hk6 hpb (fun h => h) _).trans g2, (cell_old hk6 hpb (fun h => h) _).trans g3, (cell_old hk6 hpb (fun h => h) _).trans g4, Nat.lt_of_lt_of_le hpb hk6.size⟩)
            have c1 := HV.out.cell q
            rw [ints_get W q (by rw [HWL.out]; exact hqK)] at c1
            have f1 := HV.out.frozen q
            have z1 := HV.out.lt
            have F := HF.out _ HKR.out
            clear hacc hx
            have HCW := hid (fun (wx : World) (hb : Blk wx w6.heap.size 3 (ints W)) => (show wx.cell? ⟨w6.heap.size, q, none⟩ = some (i64 (rd W q)) ∧ (∀ o, wx.frozen? ⟨w6.heap.size, o, none⟩ = false) ∧ w6.heap.size < wx.heap.size from ⟨by rw [hb.cell q, ints_get W q (by rw [HWL.out]; exact hqK)], hb.frozen, hb.lt⟩))
            go_wp2_with fail
            clear F c1 f1 z1
            apply wp_region_text (WI := fun S wx => Blk wx w6.heap.size 3 (ints (W)) ∧ Keep (fun k => k = w6.heap.size) w7 wx) (by kernel_rfl) (by kernel_rfl)
            case hob =>
              apply Oblig.cons
              case h =>
                intro S w1 hwi hSi hd hcl
                apply StepOk.intro
                intro K hK
                have F := HF.out _ hwi.2
                obtain ⟨c1, f1, z1⟩ := HCW.out _ hwi.1
                go_simp
                apply hK
                · rfl
                · conv => (lhs; whnf)
                · exact hwi
              simp only [put_lit, put_none, List.set_cons_succ, List.set_cons_zero]
              apply Oblig.cons
              case h =>
                intro S w1 hwi hSi hd hcl
                apply StepOk.intro
                intro K hK
                have F := HF.out _ hwi.2
                obtain ⟨c1, f1, z1⟩ := HCW.out _ hwi.1
                go_simp
                apply hK
                · rfl
                · conv => (lhs; whnf)
                · exact hwi
              simp only [put_lit, put_none, List.set_cons_succ, List.set_cons_zero]
              apply Oblig.cons
              case h =>
                intro S w1 hwi hSi hd hcl
                apply StepOk.intro
                intro K hK
                have F := HF.out _ hwi.2
                obtain ⟨c1, f1, z1⟩ := HCW.out _ hwi.1
                go_simp
                apply hK
                · rfl
                · conv => (lhs; whnf)
                · exact hwi
              simp only [put_lit, put_none, List.set_cons_succ, List.set_cons_zero]
              apply Oblig.cons
              case h =>
                intro S w1 hwi hSi hd hcl
                apply StepOk.intro
                intro K hK
                have F := HF.out _ hwi.2
                obtain ⟨c1, f1, z1⟩ := HCW.out _ hwi.1
                go_simp
                apply hK
                · rfl
                · conv => (lhs; whnf)
                · exact hwi
              simp only [put_lit, put_none, List.set_cons_succ, List.set_cons_zero]
              apply Oblig.cons
              case h =>
                intro S w1 hwi hSi hd hcl
                apply StepOk.intro
                intro K hK
                have F := HF.out _ hwi.2
                obtain ⟨c1, f1, z1⟩ := HCW.out _ hwi.1
                go_simp
                apply hK
                · rfl
                · conv => (lhs; whnf)
                · exact hwi
              simp only [put_lit, put_none, List.set_cons_succ, List.set_cons_zero]
              apply Oblig.cons
              case h =>
                intro S w1 hwi hSi hd hcl
                apply StepOk.intro
                intro K hK
                have F := HF.out _ hwi.2
                obtain ⟨c1, f1, z1⟩ := HCW.out _ hwi.1
                go_simp
                apply hK
                · rfl
                · conv => (lhs; whnf)
                · exact hwi
              simp only [put_lit, put_none, List.set_cons_succ, List.set_cons_zero]
              apply Oblig.cons
              case h =>
                intro S w1 hwi hSi hd hcl
                apply StepOk.intro
                intro K hK
                have F := HF.out _ hwi.2
                obtain ⟨c1, f1, z1⟩ := HCW.out _ hwi.1
                go_simp
                apply hK
                · rfl
                · conv => (lhs; whnf)
                · exact hwi
              simp only [put_lit, put_none, List.set_cons_succ, List.set_cons_zero]
              apply Oblig.cons
              case h =>
                intro S w1 hwi hSi hd hcl
                apply StepOk.intro
                intro K hK
                have F := HF.out _ hwi.2
                obtain ⟨c1, f1, z1⟩ := HCW.out _ hwi.1
                go_simp
                apply hK
                · rfl
                · conv => (lhs; whnf)
                · exact hwi
              simp only [put_lit, put_none, List.set_cons_succ, List.set_cons_zero]
              apply Oblig.cons
              case h =>
                intro S w1 hwi hSi hd hcl
                apply StepOk.intro
                intro K hK
                have F := HF.out _ hwi.2
                obtain ⟨c1, f1, z1⟩ := HCW.out _ hwi.1
                go_simp
                apply hK
                · rfl
                · conv => (lhs; whnf)
                · exact hwi
              simp only [put_lit, put_none, List.set_cons_succ, List.set_cons_zero]
              apply Oblig.cons
              case h =>
                intro S w1 hwi hSi hd hcl
                apply StepOk.intro
                intro K hK
                have F := HF.out _ hwi.2
                obtain ⟨c1, f1, z1⟩ := HCW.out _ hwi.1
                go_simp
                apply hK
                · rfl
                · conv => (lhs; whnf)
                · exact hwi
              simp only [put_lit, put_none, List.set_cons_succ, List.set_cons_zero]
              apply Oblig.cons
              case h =>
                intro S w1 hwi hSi hd hcl
                apply StepOk.intro
                intro K hK
                have F := HF.out _ hwi.2
                obtain ⟨c1, f1, z1⟩ := HCW.out _ hwi.1
                go_simp
                apply hK
                · rfl
                · conv => (lhs; whnf)
                · exact hwi
              simp only [put_lit, put_none, List.set_cons_succ, List.set_cons_zero]
              apply Oblig.cons
              case h =>
                intro S w1 hwi hSi hd hcl
                apply StepOk.intro
                intro K hK
                have F := HF.out _ hwi.2
                obtain ⟨c1, f1, z1⟩ := HCW.out _ hwi.1
                go_simp
                apply hK
                · rfl
                · conv => (lhs; whnf)
                · exact hwi
              simp only [put_lit, put_none, List.set_cons_succ, List.set_cons_zero]
              apply Oblig.cons
              case h =>
                intro S w1 hwi hSi hd hcl
                apply StepOk.intro
                intro K hK
                have F := HF.out _ hwi.2
                obtain ⟨c1, f1, z1⟩ := HCW.out _ hwi.1
                go_simp
                apply hK
                · rfl
                · conv => (lhs; whnf)
                · exact hwi
              simp only [put_lit, put_none, List.set_cons_succ, List.set_cons_zero]
              apply Oblig.cons
              case h =>
                intro S w1 hwi hSi hd hcl
                apply StepOk.intro
                intro K hK
                have F := HF.out _ hwi.2
                obtain ⟨c1, f1, z1⟩ := HCW.out _ hwi.1
                go_simp
                apply hK
                · rfl
                · conv => (lhs; whnf)
                · exact hwi
              simp only [put_lit, put_none, List.set_cons_succ, List.set_cons_zero]
              apply Oblig.cons
              case h =>
                intro S w1 hwi hSi hd hcl
                apply StepOk.intro
                intro K hK
                have F := HF.out _ hwi.2
                obtain ⟨c1, f1, z1⟩ := HCW.out _ hwi.1
                go_simp
                apply hK
                · rfl
                · conv => (lhs; whnf)
                · exact hwi
              simp only [put_lit, put_none, List.set_cons_succ, List.set_cons_zero]
              apply Oblig.cons
              case h =>
                intro S w1 hwi hSi hd hcl
                apply StepOk.intro
                intro K hK
                have F := HF.out _ hwi.2
                obtain ⟨c1, f1, z1⟩ := HCW.out _ hwi.1
                go_simp
                apply hK
                · rfl
                · conv => (lhs; whnf)
                · exact hwi
              simp only [put_lit, put_none, List.set_cons_succ, List.set_cons_zero]
              apply Oblig.cons
              case h =>
                intro S w1 hwi hSi hd hcl
                apply StepOk.intro
                intro K hK
                have F := HF.out _ hwi.2
                obtain ⟨c1, f1, z1⟩ := HCW.out _ hwi.1
                go_simp
                apply hK
                · rfl
                · conv => (lhs; whnf)
                · exact hwi
              simp only [put_lit, put_none, List.set_cons_succ, List.set_cons_zero]
              apply Oblig.cons
              case h =>
                intro S w1 hwi hSi hd hcl
                apply StepOk.intro
                intro K hK
                have F := HF.out _ hwi.2
                obtain ⟨c1, f1, z1⟩ := HCW.out _ hwi.1
                go_simp
                apply hK
                · rfl
                · conv => (lhs; whnf)
                · exact hwi
              simp only [put_lit, put_none, List.set_cons_succ, List.set_cons_zero]
              apply Oblig.cons
              case h =>
                intro S w1 hwi hSi hd hcl
                apply StepOk.intro
                intro K hK
                have F := HF.out _ hwi.2
                obtain ⟨c1, f1, z1⟩ := HCW.out _ hwi.1
                go_simp
                apply hK
                · rfl
                · conv => (lhs; whnf)
                · exact hwi
              simp only [put_lit, put_none, List.set_cons_succ, List.set_cons_zero]
              apply Oblig.cons
              case h =>
                intro S w1 hwi hSi hd hcl
                apply StepOk.intro
                intro K hK
                have F := HF.out _ hwi.2
                obtain ⟨c1, f1, z1⟩ := HCW.out _ hwi.1
                go_simp
                apply hK
                · rfl
                · conv => (lhs; whnf)
                · exact hwi
              simp only [put_lit, put_none, List.set_cons_succ, List.set_cons_zero]
              apply Oblig.cons
              case h =>
                intro S w1 hwi hSi hd hcl
                apply StepOk.intro
                intro K hK
                have F := HF.out _ hwi.2
                obtain ⟨c1, f1, z1⟩ := HCW.out _ hwi.1
                go_simp
                apply hK
                · rfl
                · conv => (lhs; whnf)
                · exact hwi
              simp only [put_lit, put_none, List.set_cons_succ, List.set_cons_zero]
              apply Oblig.cons
              case h =>
                intro S w1 hwi hSi hd hcl
                apply StepOk.intro
                intro K hK
                have F := HF.out _ hwi.2
                obtain ⟨c1, f1, z1⟩ := HCW.out _ hwi.1
                go_simp
                apply hK
                · rfl
                · conv => (lhs; whnf)
                · exact hwi
              simp only [put_lit, put_none, List.set_cons_succ, List.set_cons_zero]
              apply Oblig.cons
              case h =>
                intro S w1 hwi hSi hd hcl
                apply StepOk.intro
                intro K hK
                have F := HF.out _ hwi.2
                obtain ⟨c1, f1, z1⟩ := HCW.out _ hwi.1
                go_simp
                apply hK
                · rfl
                · conv => (lhs; whnf)
                · exact hwi
              simp only [put_lit, put_none, List.set_cons_succ, List.set_cons_zero]
              apply Oblig.cons
              case h =>
                intro S w1 hwi hSi hd hcl
                apply StepOk.intro
                intro K hK
                have F := HF.out _ hwi.2
                obtain ⟨c1, f1, z1⟩ := HCW.out _ hwi.1
                go_simp
                apply hK
                · rfl
                · conv => (lhs; whnf)
                · exact hwi
              simp only [put_lit, put_none, List.set_cons_succ, List.set_cons_zero]
              exact Oblig.nil
            case h0 =>
              exact ⟨HV.out.drew, HKR.out.drew⟩
            case hend =>
              intro S wx hwi hall
              have HVn := hid hwi.1
              have HKn := hid hwi.2
              clear hwi hall HV HKR
              have HV := HVn
              have HKR := HKn
              have F := HF.out _ HKR.out
              obtain ⟨c1, f1, z1⟩ := HCW.out _ HV.out
              obtain rfl | rfl | rfl | rfl : ok = 1 ∨ ok = 2 ∨ ok = 3 ∨ ok = 4 := by omega
              · as_aux_lemma =>
                  obtain rfl : xa = rd W q := by rw [← hxa]; simp [accOf]
                  obtain rfl : xb = 0 := by rw [← hxb]; simp [accOf]
                  obtain rfl : xo = false := by rw [← hxo]; simp [accOf]
                  clear hxa hxb hxo
                  have HNX := hid (hnx.trans (show opW ⟨1, (q : Int), oa, ob⟩ W = W from by simp [opW]))
                  clear hnx
                  go_wp2_with fail
                  clear F c1 f1 z1
                  apply wp_region_text (WI := fun S wx => Blk wx w6.heap.size 3 (ints (W)) ∧ Keep (fun k => k = w6.heap.size) w7 wx) (by kernel_rfl) (by kernel_rfl)
                  case hob =>
                    apply Oblig.cons
                    case h =>
                      intro S w1 hwi hSi hd hcl
                      apply StepOk.intro
                      intro K hK
                      have F := HF.out _ hwi.2
                      obtain ⟨c1, f1, z1⟩ := HCW.out _ hwi.1
                      go_simp
                      apply hK
                      · rfl
                      · conv => (lhs; whnf)
                      · exact hwi
                    simp only [put_lit, put_none, List.set_cons_succ, List.set_cons_zero]
                    apply Oblig.cons
                    case h =>
                      intro S w1 hwi hSi hd hcl
                      apply StepOk.intro
                      intro K hK
                      have F := HF.out _ hwi.2
                      obtain ⟨c1, f1, z1⟩ := HCW.out _ hwi.1
                      go_simp
                      apply hK
                      · rfl
                      · conv => (lhs; whnf)
                      · exact hwi
                    simp only [put_lit, put_none, List.set_cons_succ, List.set_cons_zero]
                    apply Oblig.cons
                    case h =>
                      intro S w1 hwi hSi hd hcl
                      apply StepOk.intro
                      intro K hK
                      have F := HF.out _ hwi.2
                      obtain ⟨c1, f1, z1⟩ := HCW.out _ hwi.1
                      go_simp
                      apply hK
                      · rfl
                      · conv => (lhs; whnf)
                      · exact hwi
                    simp only [put_lit, put_none, List.set_cons_succ, List.set_cons_zero]
                    apply Oblig.cons
                    case h =>
                      intro S w1 hwi hSi hd hcl
                      apply StepOk.intro
                      intro K hK
                      have F := HF.out _ hwi.2
                      obtain ⟨c1, f1, z1⟩ := HCW.out _ hwi.1
                      go_simp
                      apply hK
                      · rfl
                      · conv => (lhs; whnf)
                      · exact hwi
                    simp only [put_lit, put_none, List.set_cons_succ, List.set_cons_zero]
                    apply Oblig.cons
                    case h =>
                      intro S w1 hwi hSi hd hcl
                      apply StepOk.intro
                      intro K hK
                      have F := HF.out _ hwi.2
                      obtain ⟨c1, f1, z1⟩ := HCW.out _ hwi.1
                      go_simp
                      apply hK
                      · rfl
                      · conv => (lhs; whnf)
                      · exact hwi
                    simp only [put_lit, put_none, List.set_cons_succ, List.set_cons_zero]
                    apply Oblig.cons
                    case h =>
                      intro S w1 hwi hSi hd hcl
                      apply StepOk.intro
                      intro K hK
                      have F := HF.out _ hwi.2
                      obtain ⟨c1, f1, z1⟩ := HCW.out _ hwi.1
                      go_simp
                      apply hK
                      · rfl
                      · conv => (lhs; whnf)
                      · exact hwi
                    simp only [put_lit, put_none, List.set_cons_succ, List.set_cons_zero]
                    apply Oblig.cons
                    case h =>
                      intro S w1 hwi hSi hd hcl
                      apply StepOk.intro
                      intro K hK
                      have F := HF.out _ hwi.2
                      obtain ⟨c1, f1, z1⟩ := HCW.out _ hwi.1
                      go_simp
                      apply hK
                      · rfl
                      · conv => (lhs; whnf)
                      · exact hwi
                    simp only [put_lit, put_none, List.set_cons_succ, List.set_cons_zero]
                    apply Oblig.cons
                    case h =>
                      intro S w1 hwi hSi hd hcl
                      apply StepOk.intro
                      intro K hK
                      have F := HF.out _ hwi.2
                      obtain ⟨c1, f1, z1⟩ := HCW.out _ hwi.1
                      go_simp
                      apply hK
                      · rfl
                      · conv => (lhs; whnf)
                      · exact hwi
                    simp only [put_lit, put_none, List.set_cons_succ, List.set_cons_zero]
                    apply Oblig.cons
                    case h =>
                      intro S w1 hwi hSi hd hcl
                      apply StepOk.intro
                      intro K hK
                      have F := HF.out _ hwi.2
                      obtain ⟨c1, f1, z1⟩ := HCW.out _ hwi.1
                      go_simp
                      apply hK
                      · rfl
                      · conv => (lhs; whnf)
                      · exact hwi
                    simp only [put_lit, put_none, List.set_cons_succ, List.set_cons_zero]
                    apply Oblig.cons
                    case h =>
                      intro S w1 hwi hSi hd hcl
                      apply StepOk.intro
                      intro K hK
                      have F := HF.out _ hwi.2
                      obtain ⟨c1, f1, z1⟩ := HCW.out _ hwi.1
                      go_simp
                      apply hK
                      · rfl
                      · conv => (lhs; whnf)
                      · exact hwi
                    simp only [put_lit, put_none, List.set_cons_succ, List.set_cons_zero]
                    apply Oblig.cons
                    case h =>
                      intro S w1 hwi hSi hd hcl
                      apply StepOk.intro
                      intro K hK
                      have F := HF.out _ hwi.2
                      obtain ⟨c1, f1, z1⟩ := HCW.out _ hwi.1
                      go_simp
                      apply hK
                      · rfl
                      · conv => (lhs; whnf)
                      · exact hwi
                    simp only [put_lit, put_none, List.set_cons_succ, List.set_cons_zero]
                    apply Oblig.cons
                    case h =>
                      intro S w1 hwi hSi hd hcl
                      apply StepOk.intro
                      intro K hK
                      have F := HF.out _ hwi.2
                      obtain ⟨c1, f1, z1⟩ := HCW.out _ hwi.1
                      go_simp
                      apply hK
                      · rfl
                      · conv => (lhs; whnf)
                      · exact hwi
                    simp only [put_lit, put_none, List.set_cons_succ, List.set_cons_zero]
                    apply Oblig.cons
                    case h =>
                      intro S w1 hwi hSi hd hcl
                      apply StepOk.intro
                      intro K hK
                      have F := HF.out _ hwi.2
                      obtain ⟨c1, f1, z1⟩ := HCW.out _ hwi.1
                      go_simp
                      apply hK
                      · rfl
                      · conv => (lhs; whnf)
                      · exact hwi
                    simp only [put_lit, put_none, List.set_cons_succ, List.set_cons_zero]
                    apply Oblig.cons
                    case h =>
                      intro S w1 hwi hSi hd hcl
                      apply StepOk.intro
                      intro K hK
                      have F := HF.out _ hwi.2
                      obtain ⟨c1, f1, z1⟩ := HCW.out _ hwi.1
                      go_simp
                      apply hK
                      · rfl
                      · conv => (lhs; whnf)
                      · exact hwi
                    simp only [put_lit, put_none, List.set_cons_succ, List.set_cons_zero]
                    apply Oblig.cons
                    case h =>
                      intro S w1 hwi hSi hd hcl
                      apply StepOk.intro
                      intro K hK
                      have F := HF.out _ hwi.2
                      obtain ⟨c1, f1, z1⟩ := HCW.out _ hwi.1
                      go_simp
                      apply hK
                      · rfl
                      · conv => (lhs; whnf)
                      · exact hwi
                    simp only [put_lit, put_none, List.set_cons_succ, List.set_cons_zero]
                    apply Oblig.cons
                    case h =>
                      intro S w1 hwi hSi hd hcl
                      apply StepOk.intro
                      intro K hK
                      have F := HF.out _ hwi.2
                      obtain ⟨c1, f1, z1⟩ := HCW.out _ hwi.1
                      go_simp
                      apply hK
                      · rfl
                      · conv => (lhs; whnf)
                      · exact hwi
                    simp only [put_lit, put_none, List.set_cons_succ, List.set_cons_zero]
                    apply Oblig.cons
                    case h =>
                      intro S w1 hwi hSi hd hcl
                      apply StepOk.intro
                      intro K hK
                      have F := HF.out _ hwi.2
                      obtain ⟨c1, f1, z1⟩ := HCW.out _ hwi.1
                      go_simp
                      apply hK
                      · rfl
                      · conv => (lhs; whnf)
                      · exact hwi
                    simp only [put_lit, put_none, List.set_cons_succ, List.set_cons_zero]
                    apply Oblig.cons
                    case h =>
                      intro S w1 hwi hSi hd hcl
                      apply StepOk.intro
                      intro K hK
                      have F := HF.out _ hwi.2
                      obtain ⟨c1, f1, z1⟩ := HCW.out _ hwi.1
                      go_simp
                      apply hK
                      · rfl
                      · conv => (lhs; whnf)
                      · exact hwi
                    simp only [put_lit, put_none, List.set_cons_succ, List.set_cons_zero]
                    apply Oblig.cons
                    case h =>
                      intro S w1 hwi hSi hd hcl
                      apply StepOk.intro
                      intro K hK
                      have F := HF.out _ hwi.2
                      obtain ⟨c1, f1, z1⟩ := HCW.out _ hwi.1
                      go_simp
                      apply hK
                      · rfl
                      · conv => (lhs; whnf)
                      · exact hwi
                    simp only [put_lit, put_none, List.set_cons_succ, List.set_cons_zero]
                    apply Oblig.cons
                    case h =>
                      intro S w1 hwi hSi hd hcl
                      apply StepOk.intro
                      intro K hK
                      have F := HF.out _ hwi.2
                      obtain ⟨c1, f1, z1⟩ := HCW.out _ hwi.1
                      go_simp
                      apply hK
                      · rfl
                      · conv => (lhs; whnf)
                      · exact hwi
                    simp only [put_lit, put_none, List.set_cons_succ, List.set_cons_zero]
                    apply Oblig.cons
                    case h =>
                      intro S w1 hwi hSi hd hcl
                      apply StepOk.intro
                      intro K hK
                      have F := HF.out _ hwi.2
                      obtain ⟨c1, f1, z1⟩ := HCW.out _ hwi.1
                      go_simp
                      apply hK
                      · rfl
                      · conv => (lhs; whnf)
                      · exact hwi
                    simp only [put_lit, put_none, List.set_cons_succ, List.set_cons_zero]
                    apply Oblig.cons
                    case h =>
                      intro S w1 hwi hSi hd hcl
                      apply StepOk.intro
                      intro K hK
                      have F := HF.out _ hwi.2
                      obtain ⟨c1, f1, z1⟩ := HCW.out _ hwi.1
                      go_simp
                      apply hK
                      · rfl
                      · conv => (lhs; whnf)
                      · exact hwi
                    simp only [put_lit, put_none, List.set_cons_succ, List.set_cons_zero]
                    apply Oblig.cons
                    case h =>
                      intro S w1 hwi hSi hd hcl
                      apply StepOk.intro
                      intro K hK
                      have F := HF.out _ hwi.2
                      obtain ⟨c1, f1, z1⟩ := HCW.out _ hwi.1
                      go_simp
                      apply hK
                      · rfl
                      · conv => (lhs; whnf)
                      · exact hwi
                    simp only [put_lit, put_none, List.set_cons_succ, List.set_cons_zero]
                    apply Oblig.cons
                    case h =>
                      intro S w1 hwi hSi hd hcl
                      apply StepOk.intro
                      intro K hK
                      have F := HF.out _ hwi.2
                      obtain ⟨c1, f1, z1⟩ := HCW.out _ hwi.1
                      go_simp
                      apply hK
                      · rfl
                      · conv => (lhs; whnf)
                      · exact hwi
                    simp only [put_lit, put_none, List.set_cons_succ, List.set_cons_zero]
                    apply Oblig.cons
                    case h =>
                      intro S w1 hwi hSi hd hcl
                      apply StepOk.intro
                      intro K hK
                      have F := HF.out _ hwi.2
                      obtain ⟨c1, f1, z1⟩ := HCW.out _ hwi.1
                      go_simp
                      apply hK
                      · rfl
                      · conv => (lhs; whnf)
                      · exact hwi
                    simp only [put_lit, put_none, List.set_cons_succ, List.set_cons_zero]
                    apply Oblig.cons
                    case h =>
                      intro S w1 hwi hSi hd hcl
                      apply StepOk.intro
                      intro K hK
                      have F := HF.out _ hwi.2
                      obtain ⟨c1, f1, z1⟩ := HCW.out _ hwi.1
                      go_simp
                      apply hK
                      · rfl
                      · conv => (lhs; whnf)
                      · exact hwi
                    simp only [put_lit, put_none, List.set_cons_succ, List.set_cons_zero]
                    apply Oblig.cons
                    case h =>
                      intro S w1 hwi hSi hd hcl
                      apply StepOk.intro
                      intro K hK
                      have F := HF.out _ hwi.2
                      obtain ⟨c1, f1, z1⟩ := HCW.out _ hwi.1
                      go_simp
                      apply hK
                      · rfl
                      · conv => (lhs; whnf)
                      · exact hwi
                    simp only [put_lit, put_none, List.set_cons_succ, List.set_cons_zero]
                    apply Oblig.cons
                    case h =>
                      intro S w1 hwi hSi hd hcl
                      apply StepOk.intro
                      intro K hK
                      have F := HF.out _ hwi.2
                      obtain ⟨c1, f1, z1⟩ := HCW.out _ hwi.1
                      go_simp
                      apply hK
                      · rfl
                      · conv => (lhs; whnf)
                      · exact hwi
                    simp only [put_lit, put_none, List.set_cons_succ, List.set_cons_zero]
                    apply Oblig.cons
                    case h =>
                      intro S w1 hwi hSi hd hcl
                      apply StepOk.intro
                      intro K hK
                      have F := HF.out _ hwi.2
                      obtain ⟨c1, f1, z1⟩ := HCW.out _ hwi.1
                      go_simp
                      apply hK
                      · rfl
                      · conv => (lhs; whnf)
                      · exact hwi
                    simp only [put_lit, put_none, List.set_cons_succ, List.set_cons_zero]
                    exact Oblig.nil
                  case h0 =>
                    exact ⟨HV.out.drew, HKR.out.drew⟩
                  case hend =>
                    intro S wx hwi hall
                    have HVn := hid hwi.1
                    have HKn := hid hwi.2
                    clear hwi hall HV HKR
                    have HV := HVn
                    have HKR := HKn
                    have F := HF.out _ HKR.out
                    obtain ⟨c1, f1, z1⟩ := HCW.out _ HV.out
                    go_wp2_with fail
                    go_roundw
                    case rel => exact ⟨i + 1, by omega, by go_num, by rw [HNX.out]; exact HV.out, HKR.out⟩
                    case measure => simp [intOf]; omega
              · as_aux_lemma =>
                  obtain rfl : oa = xa := by rw [← hxa]; simp [accOf]
                  obtain rfl : xb = wrap64 (rd W q + oa) := by rw [← hxb]; simp [accOf]
                  obtain rfl : xo = false := by rw [← hxo]; simp [accOf]
                  clear hxa hxb hxo
                  have HNX := hid (hnx.trans (show opW ⟨2, (q : Int), oa, ob⟩ W = W.set q (wrap64 (rd W q + oa)) from by simp [opW]))
                  clear hnx
                  have HCY := hid (fun (wx : World) (hb : Blk wx w6.heap.size 3 (ints (W.set q (wrap64 (rd W q + oa))))) => (show wx.cell? ⟨w6.heap.size, q, none⟩ = some (i64 (wrap64 (rd W q + oa))) ∧ (∀ o, wx.frozen? ⟨w6.heap.size, o, none⟩ = false) ∧ w6.heap.size < wx.heap.size from ⟨by rw [hb.cell q, ints_get _ q (by rw [List.length_set, HWL.out]; exact hqK), rd_set_same _ _ _ (by rw [HWL.out]; exact hqK)], hb.frozen, hb.lt⟩))
                  have hwr : IntKind.i64.wrap (rd W q + oa) = wrap64 (rd W q + oa) := by rw [IntKind.wrap_i64]; unfold wrap64; first | rfl | omega
                  go_wp2_with fail
                  clear F c1 f1 z1
                  apply wp_region_text (WI := fun S wx => Keep (fun k => k = w6.heap.size) w7 wx ∧ (S 21 = false → Blk wx w6.heap.size 3 (ints W)) ∧ (S 21 = true → Blk wx w6.heap.size 3 (ints (W.set q (wrap64 (rd W q + oa)))))) (by kernel_rfl) (by kernel_rfl)
                  case hob =>
                    apply Oblig.cons
                    case h =>
                      intro S w1 hwi hSi hd hcl
                      apply StepOk.intro
                      intro K hK
                      have F := HF.out _ hwi.1
                      go_simp
                      apply hK
                      · rfl
                      · conv => (lhs; whnf)
                      · exact hwi
                    simp only [put_lit, put_none, List.set_cons_succ, List.set_cons_zero]
                    apply Oblig.cons
                    case h =>
                      intro S w1 hwi hSi hd hcl
                      apply StepOk.intro
                      intro K hK
                      have F := HF.out _ hwi.1
                      go_simp
                      apply hK
                      · rfl
                      · conv => (lhs; whnf)
                      · exact hwi
                    simp only [put_lit, put_none, List.set_cons_succ, List.set_cons_zero]
                    apply Oblig.cons
                    case h =>
                      intro S w1 hwi hSi hd hcl
                      apply StepOk.intro
                      intro K hK
                      have F := HF.out _ hwi.1
                      go_simp
                      apply hK
                      · rfl
                      · conv => (lhs; whnf)
                      · exact hwi
                    simp only [put_lit, put_none, List.set_cons_succ, List.set_cons_zero]
                    apply Oblig.cons
                    case h =>
                      intro S w1 hwi hSi hd hcl
                      apply StepOk.intro
                      intro K hK
                      have F := HF.out _ hwi.1
                      go_simp
                      apply hK
                      · rfl
                      · conv => (lhs; whnf)
                      · exact hwi
                    simp only [put_lit, put_none, List.set_cons_succ, List.set_cons_zero]
                    apply Oblig.cons
                    case h =>
                      intro S w1 hwi hSi hd hcl
                      apply StepOk.intro
                      intro K hK
                      have F := HF.out _ hwi.1
                      go_simp
                      apply hK
                      · rfl
                      · conv => (lhs; whnf)
                      · exact hwi
                    simp only [put_lit, put_none, List.set_cons_succ, List.set_cons_zero]
                    apply Oblig.cons
                    case h =>
                      intro S w1 hwi hSi hd hcl
                      apply StepOk.intro
                      intro K hK
                      have F := HF.out _ hwi.1
                      go_simp
                      apply hK
                      · rfl
                      · conv => (lhs; whnf)
                      · exact hwi
                    simp only [put_lit, put_none, List.set_cons_succ, List.set_cons_zero]
                    apply Oblig.cons
                    case h =>
                      intro S w1 hwi hSi hd hcl
                      apply StepOk.intro
                      intro K hK
                      have F := HF.out _ hwi.1
                      go_simp
                      apply hK
                      · rfl
                      · conv => (lhs; whnf)
                      · exact hwi
                    simp only [put_lit, put_none, List.set_cons_succ, List.set_cons_zero]
                    apply Oblig.cons
                    case h =>
                      intro S w1 hwi hSi hd hcl
                      apply StepOk.intro
                      intro K hK
                      have F := HF.out _ hwi.1
                      go_simp
                      apply hK
                      · rfl
                      · conv => (lhs; whnf)
                      · exact hwi
                    simp only [put_lit, put_none, List.set_cons_succ, List.set_cons_zero]
                    apply Oblig.cons
                    case h =>
                      intro S w1 hwi hSi hd hcl
                      apply StepOk.intro
                      intro K hK
                      have F := HF.out _ hwi.1
                      go_simp
                      apply hK
                      · rfl
                      · conv => (lhs; whnf)
                      · exact hwi
                    simp only [put_lit, put_none, List.set_cons_succ, List.set_cons_zero]
                    apply Oblig.cons
                    case h =>
                      intro S w1 hwi hSi hd hcl
                      apply StepOk.intro
                      intro K hK
                      have F := HF.out _ hwi.1
                      go_simp
                      apply hK
                      · rfl
                      · conv => (lhs; whnf)
                      · exact hwi
                    simp only [put_lit, put_none, List.set_cons_succ, List.set_cons_zero]
                    apply Oblig.cons
                    case h =>
                      intro S w1 hwi hSi hd hcl
                      apply StepOk.intro
                      intro K hK
                      have F := HF.out _ hwi.1
                      go_simp
                      apply hK
                      · rfl
                      · conv => (lhs; whnf)
                      · exact hwi
                    simp only [put_lit, put_none, List.set_cons_succ, List.set_cons_zero]
                    apply Oblig.cons
                    case h =>
                      intro S w1 hwi hSi hd hcl
                      apply StepOk.intro
                      intro K hK
                      have F := HF.out _ hwi.1
                      go_simp
                      apply hK
                      · rfl
                      · conv => (lhs; whnf)
                      · exact hwi
                    simp only [put_lit, put_none, List.set_cons_succ, List.set_cons_zero]
                    apply Oblig.cons
                    case h =>
                      intro S w1 hwi hSi hd hcl
                      apply StepOk.intro
                      intro K hK
                      have F := HF.out _ hwi.1
                      go_simp
                      apply hK
                      · rfl
                      · conv => (lhs; whnf)
                      · exact hwi
                    simp only [put_lit, put_none, List.set_cons_succ, List.set_cons_zero]
                    apply Oblig.cons
                    case h =>
                      intro S w1 hwi hSi hd hcl
                      apply StepOk.intro
                      intro K hK
                      have hst : S 21 = false := by
                        cases h : S 21 with
                        | false => rfl
                        | true => have := hcl 21 _ rfl h ⟨13, .phase⟩ (by simp) rfl; rw [hSi] at this; cases this
                      obtain ⟨c1, f1, z1⟩ := HCW.out _ (hwi.2.1 hst)
                      go_simp
                      apply hK
                      · rfl
                      · conv => (lhs; whnf)
                      · exact hwi
                    simp only [put_lit, put_none, List.set_cons_succ, List.set_cons_zero]
                    apply Oblig.cons
                    case h =>
                      intro S w1 hwi hSi hd hcl
                      apply StepOk.intro
                      intro K hK
                      have F := HF.out _ hwi.1
                      go_simp
                      apply hK
                      · rfl
                      · conv => (lhs; whnf)
                      · exact hwi
                    simp only [put_lit, put_none, List.set_cons_succ, List.set_cons_zero]
                    apply Oblig.cons
                    case h =>
                      intro S w1 hwi hSi hd hcl
                      apply StepOk.intro
                      intro K hK
                      have F := HF.out _ hwi.1
                      go_simp
                      apply hK
                      · rfl
                      · conv => (lhs; whnf)
                      · exact hwi
                    simp only [put_lit, put_none, List.set_cons_succ, List.set_cons_zero]
                    apply Oblig.cons
                    case h =>
                      intro S w1 hwi hSi hd hcl
                      apply StepOk.intro
                      intro K hK
                      have F := HF.out _ hwi.1
                      go_simp
                      apply hK
                      · rfl
                      · conv => (lhs; whnf)
                      · exact hwi
                    simp only [put_lit, put_none, List.set_cons_succ, List.set_cons_zero]
                    apply Oblig.cons
                    case h =>
                      intro S w1 hwi hSi hd hcl
                      apply StepOk.intro
                      intro K hK
                      have F := HF.out _ hwi.1
                      go_simp
                      apply hK
                      · rfl
                      · conv => (lhs; whnf)
                      · exact hwi
                    simp only [put_lit, put_none, List.set_cons_succ, List.set_cons_zero]
                    apply Oblig.cons
                    case h =>
                      intro S w1 hwi hSi hd hcl
                      apply StepOk.intro
                      intro K hK
                      have F := HF.out _ hwi.1
                      go_simp
                      apply hK
                      · rfl
                      · conv => (lhs; whnf)
                      · exact hwi
                    simp only [put_lit, put_none, List.set_cons_succ, List.set_cons_zero]
                    apply Oblig.cons
                    case h =>
                      intro S w1 hwi hSi hd hcl
                      apply StepOk.intro
                      intro K hK
                      have F := HF.out _ hwi.1
                      go_simp
                      apply hK
                      · rfl
                      · conv => (lhs; whnf)
                      · exact hwi
                    simp only [put_lit, put_none, List.set_cons_succ, List.set_cons_zero]
                    apply Oblig.cons
                    case h =>
                      intro S w1 hwi hSi hd hcl
                      apply StepOk.intro
                      intro K hK
                      have F := HF.out _ hwi.1
                      go_simp
                      apply hK
                      · rfl
                      · conv => (lhs; whnf)
                      · exact hwi
                    simp only [put_lit, put_none, List.set_cons_succ, List.set_cons_zero]
                    apply Oblig.cons
                    case h =>
                      intro S w1 hwi hSi hd hcl
                      apply StepOk.intro
                      intro K hK
                      have F := HF.out _ hwi.1
                      have h0 := hwi.2.1 hSi
                      obtain ⟨c1, f1, z1⟩ := HCW.out _ h0
                      go_simp
                      apply hK
                      · rfl
                      · conv => (lhs; whnf)
                      · exact ⟨hwi.1.set _ _ (fun _ => rfl), fun h => by simp [upd] at h, fun _ => (h0.set q (i64 (wrap64 (rd W q + oa)))).cast (ints_set _ _ _)⟩
                    simp only [put_lit, put_none, List.set_cons_succ, List.set_cons_zero]
                    exact Oblig.nil
                  case h0 =>
                    exact ⟨HKR.out.drew, fun _ => HV.out.drew, fun h => by cases h⟩
                  case hend =>
                    intro S wx hwi hall
                    have HVn := hid (hwi.2.2 (hall 21 (by decide)))
                    have HKn := hid hwi.1
                    clear hwi hall HV HKR
                    have HV := HVn
                    have HKR := HKn
                    have F := HF.out _ HKR.out
                    obtain ⟨c1, f1, z1⟩ := HCY.out _ HV.out
                    go_wp2_with fail
                    clear F c1 f1 z1
                    apply wp_region_text (WI := fun S wx => Blk wx w6.heap.size 3 (ints (W.set q (wrap64 (rd W q + oa)))) ∧ Keep (fun k => k = w6.heap.size) w7 wx) (by kernel_rfl) (by kernel_rfl)
                    case hob =>
                      apply Oblig.cons
                      case h =>
                        intro S w1 hwi hSi hd hcl
                        apply StepOk.intro
                        intro K hK
                        have F := HF.out _ hwi.2
                        obtain ⟨c1, f1, z1⟩ := HCY.out _ hwi.1
                        go_simp
                        apply hK
                        · rfl
                        · conv => (lhs; whnf)
                        · exact hwi
                      simp only [put_lit, put_none, List.set_cons_succ, List.set_cons_zero]
                      apply Oblig.cons
                      case h =>
                        intro S w1 hwi hSi hd hcl
                        apply StepOk.intro
                        intro K hK
                        have F := HF.out _ hwi.2
                        obtain ⟨c1, f1, z1⟩ := HCY.out _ hwi.1
                        go_simp
                        apply hK
                        · rfl
                        · conv => (lhs; whnf)
                        · exact hwi
                      simp only [put_lit, put_none, List.set_cons_succ, List.set_cons_zero]
                      apply Oblig.cons
                      case h =>
                        intro S w1 hwi hSi hd hcl
                        apply StepOk.intro
                        intro K hK
                        have F := HF.out _ hwi.2
                        obtain ⟨c1, f1, z1⟩ := HCY.out _ hwi.1
                        go_simp
                        apply hK
                        · rfl
                        · conv => (lhs; whnf)
                        · exact hwi
                      simp only [put_lit, put_none, List.set_cons_succ, List.set_cons_zero]
                      apply Oblig.cons
                      case h =>
                        intro S w1 hwi hSi hd hcl
                        apply StepOk.intro
                        intro K hK
                        have F := HF.out _ hwi.2
                        obtain ⟨c1, f1, z1⟩ := HCY.out _ hwi.1
                        go_simp
                        apply hK
                        · rfl
                        · conv => (lhs; whnf)
                        · exact hwi
                      simp only [put_lit, put_none, List.set_cons_succ, List.set_cons_zero]
                      apply Oblig.cons
                      case h =>
                        intro S w1 hwi hSi hd hcl
                        apply StepOk.intro
                        intro K hK
                        have F := HF.out _ hwi.2
                        obtain ⟨c1, f1, z1⟩ := HCY.out _ hwi.1
                        go_simp
                        apply hK
                        · rfl
                        · conv => (lhs; whnf)
                        · exact hwi
                      simp only [put_lit, put_none, List.set_cons_succ, List.set_cons_zero]
                      apply Oblig.cons
                      case h =>
                        intro S w1 hwi hSi hd hcl
                        apply StepOk.intro
                        intro K hK
                        have F := HF.out _ hwi.2
                        obtain ⟨c1, f1, z1⟩ := HCY.out _ hwi.1
                        go_simp
                        apply hK
                        · rfl
                        · conv => (lhs; whnf)
                        · exact hwi
                      simp only [put_lit, put_none, List.set_cons_succ, List.set_cons_zero]
                      apply Oblig.cons
                      case h =>
                        intro S w1 hwi hSi hd hcl
                        apply StepOk.intro
                        intro K hK
                        have F := HF.out _ hwi.2
                        obtain ⟨c1, f1, z1⟩ := HCY.out _ hwi.1
                        go_simp
                        apply hK
                        · rfl
                        · conv => (lhs; whnf)
                        · exact hwi
                      simp only [put_lit, put_none, List.set_cons_succ, List.set_cons_zero]
                      apply Oblig.cons
                      case h =>
                        intro S w1 hwi hSi hd hcl
                        apply StepOk.intro
                        intro K hK
                        have F := HF.out _ hwi.2
                        obtain ⟨c1, f1, z1⟩ := HCY.out _ hwi.1
                        go_simp
                        apply hK
                        · rfl
                        · conv => (lhs; whnf)
                        · exact hwi
                      simp only [put_lit, put_none, List.set_cons_succ, List.set_cons_zero]
                      apply Oblig.cons
                      case h =>
                        intro S w1 hwi hSi hd hcl
                        apply StepOk.intro
                        intro K hK
                        have F := HF.out _ hwi.2
                        obtain ⟨c1, f1, z1⟩ := HCY.out _ hwi.1
                        go_simp
                        apply hK
                        · rfl
                        · conv => (lhs; whnf)
                        · exact hwi
                      simp only [put_lit, put_none, List.set_cons_succ, List.set_cons_zero]
                      apply Oblig.cons
                      case h =>
                        intro S w1 hwi hSi hd hcl
                        apply StepOk.intro
                        intro K hK
                        have F := HF.out _ hwi.2
                        obtain ⟨c1, f1, z1⟩ := HCY.out _ hwi.1
                        go_simp
                        apply hK
                        · rfl
                        · conv => (lhs; whnf)
                        · exact hwi
                      simp only [put_lit, put_none, List.set_cons_succ, List.set_cons_zero]
                      apply Oblig.cons
                      case h =>
                        intro S w1 hwi hSi hd hcl
                        apply StepOk.intro
                        intro K hK
                        have F := HF.out _ hwi.2
                        obtain ⟨c1, f1, z1⟩ := HCY.out _ hwi.1
                        go_simp
                        apply hK
                        · rfl
                        · conv => (lhs; whnf)
                        · exact hwi
                      simp only [put_lit, put_none, List.set_cons_succ, List.set_cons_zero]
                      apply Oblig.cons
                      case h =>
                        intro S w1 hwi hSi hd hcl
                        apply StepOk.intro
                        intro K hK
                        have F := HF.out _ hwi.2
                        obtain ⟨c1, f1, z1⟩ := HCY.out _ hwi.1
                        go_simp
                        apply hK
                        · rfl
                        · conv => (lhs; whnf)
                        · exact hwi
                      simp only [put_lit, put_none, List.set_cons_succ, List.set_cons_zero]
                      apply Oblig.cons
                      case h =>
                        intro S w1 hwi hSi hd hcl
                        apply StepOk.intro
                        intro K hK
                        have F := HF.out _ hwi.2
                        obtain ⟨c1, f1, z1⟩ := HCY.out _ hwi.1
                        go_simp
                        apply hK
                        · rfl
                        · conv => (lhs; whnf)
                        · exact hwi
                      simp only [put_lit, put_none, List.set_cons_succ, List.set_cons_zero]
                      apply Oblig.cons
                      case h =>
                        intro S w1 hwi hSi hd hcl
                        apply StepOk.intro
                        intro K hK
                        have F := HF.out _ hwi.2
                        obtain ⟨c1, f1, z1⟩ := HCY.out _ hwi.1
                        go_simp
                        apply hK
                        · rfl
                        · conv => (lhs; whnf)
                        · exact hwi
                      simp only [put_lit, put_none, List.set_cons_succ, List.set_cons_zero]
                      apply Oblig.cons
                      case h =>
                        intro S w1 hwi hSi hd hcl
                        apply StepOk.intro
                        intro K hK
                        have F := HF.out _ hwi.2
                        obtain ⟨c1, f1, z1⟩ := HCY.out _ hwi.1
                        go_simp
                        apply hK
                        · rfl
                        · conv => (lhs; whnf)
                        · exact hwi
                      simp only [put_lit, put_none, List.set_cons_succ, List.set_cons_zero]
                      apply Oblig.cons
                      case h =>
                        intro S w1 hwi hSi hd hcl
                        apply StepOk.intro
                        intro K hK
                        have F := HF.out _ hwi.2
                        obtain ⟨c1, f1, z1⟩ := HCY.out _ hwi.1
                        go_simp
                        apply hK
                        · rfl
                        · conv => (lhs; whnf)
                        · exact hwi
                      simp only [put_lit, put_none, List.set_cons_succ, List.set_cons_zero]
                      apply Oblig.cons
                      case h =>
                        intro S w1 hwi hSi hd hcl
                        apply StepOk.intro
                        intro K hK
                        have F := HF.out _ hwi.2
                        obtain ⟨c1, f1, z1⟩ := HCY.out _ hwi.1
                        go_simp
                        apply hK
                        · rfl
                        · conv => (lhs; whnf)
                        · exact hwi
                      simp only [put_lit, put_none, List.set_cons_succ, List.set_cons_zero]
                      apply Oblig.cons
                      case h =>
                        intro S w1 hwi hSi hd hcl
                        apply StepOk.intro
                        intro K hK
                        have F := HF.out _ hwi.2
                        obtain ⟨c1, f1, z1⟩ := HCY.out _ hwi.1
                        go_simp
                        apply hK
                        · rfl
                        · conv => (lhs; whnf)
                        · exact hwi
                      simp only [put_lit, put_none, List.set_cons_succ, List.set_cons_zero]
                      apply Oblig.cons
                      case h =>
                        intro S w1 hwi hSi hd hcl
                        apply StepOk.intro
                        intro K hK
                        have F := HF.out _ hwi.2
                        obtain ⟨c1, f1, z1⟩ := HCY.out _ hwi.1
                        go_simp
                        apply hK
                        · rfl
                        · conv => (lhs; whnf)
                        · exact hwi
                      simp only [put_lit, put_none, List.set_cons_succ, List.set_cons_zero]
                      apply Oblig.cons
                      case h =>
                        intro S w1 hwi hSi hd hcl
                        apply StepOk.intro
                        intro K hK
                        have F := HF.out _ hwi.2
                        obtain ⟨c1, f1, z1⟩ := HCY.out _ hwi.1
                        go_simp
                        apply hK
                        · rfl
                        · conv => (lhs; whnf)
                        · exact hwi
                      simp only [put_lit, put_none, List.set_cons_succ, List.set_cons_zero]
                      apply Oblig.cons
                      case h =>
                        intro S w1 hwi hSi hd hcl
                        apply StepOk.intro
                        intro K hK
                        have F := HF.out _ hwi.2
                        obtain ⟨c1, f1, z1⟩ := HCY.out _ hwi.1
                        go_simp
                        apply hK
                        · rfl
                        · conv => (lhs; whnf)
                        · exact hwi
                      simp only [put_lit, put_none, List.set_cons_succ, List.set_cons_zero]
                      apply Oblig.cons
                      case h =>
                        intro S w1 hwi hSi hd hcl
                        apply StepOk.intro
                        intro K hK
                        have F := HF.out _ hwi.2
                        obtain ⟨c1, f1, z1⟩ := HCY.out _ hwi.1
                        go_simp
                        apply hK
                        · rfl
                        · conv => (lhs; whnf)
                        · exact hwi
                      simp only [put_lit, put_none, List.set_cons_succ, List.set_cons_zero]
                      apply Oblig.cons
                      case h =>
                        intro S w1 hwi hSi hd hcl
                        apply StepOk.intro
                        intro K hK
                        have F := HF.out _ hwi.2
                        obtain ⟨c1, f1, z1⟩ := HCY.out _ hwi.1
                        go_simp
                        apply hK
                        · rfl
                        · conv => (lhs; whnf)
                        · exact hwi
                      simp only [put_lit, put_none, List.set_cons_succ, List.set_cons_zero]
                      apply Oblig.cons
                      case h =>
                        intro S w1 hwi hSi hd hcl
                        apply StepOk.intro
                        intro K hK
                        have F := HF.out _ hwi.2
                        obtain ⟨c1, f1, z1⟩ := HCY.out _ hwi.1
                        go_simp
                        apply hK
                        · rfl
                        · conv => (lhs; whnf)
                        · exact hwi
                      simp only [put_lit, put_none, List.set_cons_succ, List.set_cons_zero]
                      apply Oblig.cons
                      case h =>
                        intro S w1 hwi hSi hd hcl
                        apply StepOk.intro
                        intro K hK
                        have F := HF.out _ hwi.2
                        obtain ⟨c1, f1, z1⟩ := HCY.out _ hwi.1
                        go_simp
                        apply hK
                        · rfl
                        · conv => (lhs; whnf)
                        · exact hwi
                      simp only [put_lit, put_none, List.set_cons_succ, List.set_cons_zero]
                      apply Oblig.cons
                      case h =>
                        intro S w1 hwi hSi hd hcl
                        apply StepOk.intro
                        intro K hK
                        have F := HF.out _ hwi.2
                        obtain ⟨c1, f1, z1⟩ := HCY.out _ hwi.1
                        go_simp
                        apply hK
                        · rfl
                        · conv => (lhs; whnf)
                        · exact hwi
                      simp only [put_lit, put_none, List.set_cons_succ, List.set_cons_zero]
                      apply Oblig.cons
                      case h =>
                        intro S w1 hwi hSi hd hcl
                        apply StepOk.intro
                        intro K hK
                        have F := HF.out _ hwi.2
                        obtain ⟨c1, f1, z1⟩ := HCY.out _ hwi.1
                        go_simp
                        apply hK
                        · rfl
                        · conv => (lhs; whnf)
                        · exact hwi
                      simp only [put_lit, put_none, List.set_cons_succ, List.set_cons_zero]
                      apply Oblig.cons
                      case h =>
                        intro S w1 hwi hSi hd hcl
                        apply StepOk.intro
                        intro K hK
                        have F := HF.out _ hwi.2
                        obtain ⟨c1, f1, z1⟩ := HCY.out _ hwi.1
                        go_simp
                        apply hK
                        · rfl
                        · conv => (lhs; whnf)
                        · exact hwi
                      simp only [put_lit, put_none, List.set_cons_succ, List.set_cons_zero]
                      apply Oblig.cons
                      case h =>
                        intro S w1 hwi hSi hd hcl
                        apply StepOk.intro
                        intro K hK
                        have F := HF.out _ hwi.2
                        obtain ⟨c1, f1, z1⟩ := HCY.out _ hwi.1
                        go_simp
                        apply hK
                        · rfl
                        · conv => (lhs; whnf)
                        · exact hwi
                      simp only [put_lit, put_none, List.set_cons_succ, List.set_cons_zero]
                      apply Oblig.cons
                      case h =>
                        intro S w1 hwi hSi hd hcl
                        apply StepOk.intro
                        intro K hK
                        have F := HF.out _ hwi.2
                        obtain ⟨c1, f1, z1⟩ := HCY.out _ hwi.1
                        go_simp
                        apply hK
                        · rfl
                        · conv => (lhs; whnf)
                        · exact hwi
                      simp only [put_lit, put_none, List.set_cons_succ, List.set_cons_zero]
                      apply Oblig.cons
                      case h =>
                        intro S w1 hwi hSi hd hcl
                        apply StepOk.intro
                        intro K hK
                        have F := HF.out _ hwi.2
                        obtain ⟨c1, f1, z1⟩ := HCY.out _ hwi.1
                        go_simp
                        apply hK
                        · rfl
                        · conv => (lhs; whnf)
                        · exact hwi
                      simp only [put_lit, put_none, List.set_cons_succ, List.set_cons_zero]
                      apply Oblig.cons
                      case h =>
                        intro S w1 hwi hSi hd hcl
                        apply StepOk.intro
                        intro K hK
                        have F := HF.out _ hwi.2
                        obtain ⟨c1, f1, z1⟩ := HCY.out _ hwi.1
                        go_simp
                        apply hK
                        · rfl
                        · conv => (lhs; whnf)
                        · exact hwi
                      simp only [put_lit, put_none, List.set_cons_succ, List.set_cons_zero]
                      apply Oblig.cons
                      case h =>
                        intro S w1 hwi hSi hd hcl
                        apply StepOk.intro
                        intro K hK
                        have F := HF.out _ hwi.2
                        obtain ⟨c1, f1, z1⟩ := HCY.out _ hwi.1
                        go_simp
                        apply hK
                        · rfl
                        · conv => (lhs; whnf)
                        · exact hwi
                      simp only [put_lit, put_none, List.set_cons_succ, List.set_cons_zero]
                      apply Oblig.cons
                      case h =>
                        intro S w1 hwi hSi hd hcl
                        apply StepOk.intro
                        intro K hK
                        have F := HF.out _ hwi.2
                        obtain ⟨c1, f1, z1⟩ := HCY.out _ hwi.1
                        go_simp
                        apply hK
                        · rfl
                        · conv => (lhs; whnf)
                        · exact hwi
                      simp only [put_lit, put_none, List.set_cons_succ, List.set_cons_zero]
                      exact Oblig.nil
                    case h0 =>
                      exact ⟨HV.out.drew, HKR.out.drew⟩
                    case hend =>
                      intro S wx hwi hall
                      have HVn := hid hwi.1
                      have HKn := hid hwi.2
                      clear hwi hall HV HKR
                      have HV := HVn
                      have HKR := HKn
                      have F := HF.out _ HKR.out
                      obtain ⟨c1, f1, z1⟩ := HCY.out _ HV.out
                      go_wp2_with fail
                      go_roundw
                      case rel => exact ⟨i + 1, by omega, by go_num, by rw [HNX.out]; exact HV.out, HKR.out⟩
                      case measure => simp [intOf]; omega
              · by_cases hb : rd W q = oa
                · as_aux_lemma =>
                    have hb' : (rd W q == oa) = true := by simpa using hb
                    obtain rfl : oa = xa := by rw [← hxa]; simp [accOf]
                    obtain rfl : ob = xb := by rw [← hxb]; simp [accOf]
                    obtain rfl : xo = true := by rw [← hxo]; simp [accOf, hb]
                    clear hxa hxb hxo
                    have HNX := hid (hnx.trans (show opW ⟨3, (q : Int), oa, ob⟩ W = W.set q ob from by simp [opW, casW, hb]))
                    clear hnx
                    clear hb
                    have HCY := hid (fun (wx : World) (hb : Blk wx w6.heap.size 3 (ints (W.set q (ob)))) => (show wx.cell? ⟨w6.heap.size, q, none⟩ = some (i64 (ob)) ∧ (∀ o, wx.frozen? ⟨w6.heap.size, o, none⟩ = false) ∧ w6.heap.size < wx.heap.size from ⟨by rw [hb.cell q, ints_get _ q (by rw [List.length_set, HWL.out]; exact hqK), rd_set_same _ _ _ (by rw [HWL.out]; exact hqK)], hb.frozen, hb.lt⟩))
                    go_wp2_with fail
                    clear F c1 f1 z1
                    apply wp_region_text (WI := fun S wx => Blk wx w6.heap.size 3 (ints (W)) ∧ Keep (fun k => k = w6.heap.size) w7 wx) (by kernel_rfl) (by kernel_rfl)
                    case hob =>
                      apply Oblig.cons
                      case h =>
                        intro S w1 hwi hSi hd hcl
                        apply StepOk.intro
                        intro K hK
                        have F := HF.out _ hwi.2
                        obtain ⟨c1, f1, z1⟩ := HCW.out _ hwi.1
                        go_simp
                        apply hK
                        · rfl
                        · conv => (lhs; whnf)
                        · exact hwi
                      simp only [put_lit, put_none, List.set_cons_succ, List.set_cons_zero]
                      apply Oblig.cons
                      case h =>
                        intro S w1 hwi hSi hd hcl
                        apply StepOk.intro
                        intro K hK
                        have F := HF.out _ hwi.2
                        obtain ⟨c1, f1, z1⟩ := HCW.out _ hwi.1
                        go_simp
                        apply hK
                        · rfl
                        · conv => (lhs; whnf)
                        · exact hwi
                      simp only [put_lit, put_none, List.set_cons_succ, List.set_cons_zero]
                      apply Oblig.cons
                      case h =>
                        intro S w1 hwi hSi hd hcl
                        apply StepOk.intro
                        intro K hK
                        have F := HF.out _ hwi.2
                        obtain ⟨c1, f1, z1⟩ := HCW.out _ hwi.1
                        go_simp
                        apply hK
                        · rfl
                        · conv => (lhs; whnf)
                        · exact hwi
                      simp only [put_lit, put_none, List.set_cons_succ, List.set_cons_zero]
                      apply Oblig.cons
                      case h =>
                        intro S w1 hwi hSi hd hcl
                        apply StepOk.intro
                        intro K hK
                        have F := HF.out _ hwi.2
                        obtain ⟨c1, f1, z1⟩ := HCW.out _ hwi.1
                        go_simp
                        apply hK
                        · rfl
                        · conv => (lhs; whnf)
                        · exact hwi
                      simp only [put_lit, put_none, List.set_cons_succ, List.set_cons_zero]
                      apply Oblig.cons
                      case h =>
                        intro S w1 hwi hSi hd hcl
                        apply StepOk.intro
                        intro K hK
                        have F := HF.out _ hwi.2
                        obtain ⟨c1, f1, z1⟩ := HCW.out _ hwi.1
                        go_simp
                        apply hK
                        · rfl
                        · conv => (lhs; whnf)
                        · exact hwi
                      simp only [put_lit, put_none, List.set_cons_succ, List.set_cons_zero]
                      apply Oblig.cons
                      case h =>
                        intro S w1 hwi hSi hd hcl
                        apply StepOk.intro
                        intro K hK
                        have F := HF.out _ hwi.2
                        obtain ⟨c1, f1, z1⟩ := HCW.out _ hwi.1
                        go_simp
                        apply hK
                        · rfl
                        · conv => (lhs; whnf)
                        · exact hwi
                      simp only [put_lit, put_none, List.set_cons_succ, List.set_cons_zero]
                      apply Oblig.cons
                      case h =>
                        intro S w1 hwi hSi hd hcl
                        apply StepOk.intro
                        intro K hK
                        have F := HF.out _ hwi.2
                        obtain ⟨c1, f1, z1⟩ := HCW.out _ hwi.1
                        go_simp
                        apply hK
                        · rfl
                        · conv => (lhs; whnf)
                        · exact hwi
                      simp only [put_lit, put_none, List.set_cons_succ, List.set_cons_zero]
                      apply Oblig.cons
                      case h =>
                        intro S w1 hwi hSi hd hcl
                        apply StepOk.intro
                        intro K hK
                        have F := HF.out _ hwi.2
                        obtain ⟨c1, f1, z1⟩ := HCW.out _ hwi.1
                        go_simp
                        apply hK
                        · rfl
                        · conv => (lhs; whnf)
                        · exact hwi
                      simp only [put_lit, put_none, List.set_cons_succ, List.set_cons_zero]
                      apply Oblig.cons
                      case h =>
                        intro S w1 hwi hSi hd hcl
                        apply StepOk.intro
                        intro K hK
                        have F := HF.out _ hwi.2
                        obtain ⟨c1, f1, z1⟩ := HCW.out _ hwi.1
                        go_simp
                        apply hK
                        · rfl
                        · conv => (lhs; whnf)
                        · exact hwi
                      simp only [put_lit, put_none, List.set_cons_succ, List.set_cons_zero]
                      apply Oblig.cons
                      case h =>
                        intro S w1 hwi hSi hd hcl
                        apply StepOk.intro
                        intro K hK
                        have F := HF.out _ hwi.2
                        obtain ⟨c1, f1, z1⟩ := HCW.out _ hwi.1
                        go_simp
                        apply hK
                        · rfl
                        · conv => (lhs; whnf)
                        · exact hwi
                      simp only [put_lit, put_none, List.set_cons_succ, List.set_cons_zero]
                      apply Oblig.cons
                      case h =>
                        intro S w1 hwi hSi hd hcl
                        apply StepOk.intro
                        intro K hK
                        have F := HF.out _ hwi.2
                        obtain ⟨c1, f1, z1⟩ := HCW.out _ hwi.1
                        go_simp
                        apply hK
                        · rfl
                        · conv => (lhs; whnf)
                        · exact hwi
                      simp only [put_lit, put_none, List.set_cons_succ, List.set_cons_zero]
                      apply Oblig.cons
                      case h =>
                        intro S w1 hwi hSi hd hcl
                        apply StepOk.intro
                        intro K hK
                        have F := HF.out _ hwi.2
                        obtain ⟨c1, f1, z1⟩ := HCW.out _ hwi.1
                        go_simp
                        apply hK
                        · rfl
                        · conv => (lhs; whnf)
                        · exact hwi
                      simp only [put_lit, put_none, List.set_cons_succ, List.set_cons_zero]
                      apply Oblig.cons
                      case h =>
                        intro S w1 hwi hSi hd hcl
                        apply StepOk.intro
                        intro K hK
                        have F := HF.out _ hwi.2
                        obtain ⟨c1, f1, z1⟩ := HCW.out _ hwi.1
                        go_simp
                        apply hK
                        · rfl
                        · conv => (lhs; whnf)
                        · exact hwi
                      simp only [put_lit, put_none, List.set_cons_succ, List.set_cons_zero]
                      apply Oblig.cons
                      case h =>
                        intro S w1 hwi hSi hd hcl
                        apply StepOk.intro
                        intro K hK
                        have F := HF.out _ hwi.2
                        obtain ⟨c1, f1, z1⟩ := HCW.out _ hwi.1
                        go_simp
                        apply hK
                        · rfl
                        · conv => (lhs; whnf)
                        · exact hwi
                      simp only [put_lit, put_none, List.set_cons_succ, List.set_cons_zero]
                      apply Oblig.cons
                      case h =>
                        intro S w1 hwi hSi hd hcl
                        apply StepOk.intro
                        intro K hK
                        have F := HF.out _ hwi.2
                        obtain ⟨c1, f1, z1⟩ := HCW.out _ hwi.1
                        go_simp
                        apply hK
                        · rfl
                        · conv => (lhs; whnf)
                        · exact hwi
                      simp only [put_lit, put_none, List.set_cons_succ, List.set_cons_zero]
                      exact Oblig.nil
                    case h0 =>
                      exact ⟨HV.out.drew, HKR.out.drew⟩
                    case hend =>
                      intro S wx hwi hall
                      have HVn := hid hwi.1
                      have HKn := hid hwi.2
                      clear hwi hall HV HKR
                      have HV := HVn
                      have HKR := HKn
                      have F := HF.out _ HKR.out
                      obtain ⟨c1, f1, z1⟩ := HCW.out _ HV.out
                      go_wp2_with fail
                      clear F c1 f1 z1
                      apply wp_region_text (WI := fun S wx => Keep (fun k => k = w6.heap.size) w7 wx ∧ (S 12 = false → Blk wx w6.heap.size 3 (ints W)) ∧ (S 12 = true → Blk wx w6.heap.size 3 (ints (W.set q (ob))))) (by kernel_rfl) (by kernel_rfl)
                      case hob =>
                        apply Oblig.cons
                        case h =>
                          intro S w1 hwi hSi hd hcl
                          apply StepOk.intro
                          intro K hK
                          have F := HF.out _ hwi.1
                          go_simp
                          apply hK
                          · rfl
                          · conv => (lhs; whnf)
                          · exact hwi
                        simp only [put_lit, put_none, List.set_cons_succ, List.set_cons_zero]
                        apply Oblig.cons
                        case h =>
                          intro S w1 hwi hSi hd hcl
                          apply StepOk.intro
                          intro K hK
                          have F := HF.out _ hwi.1
                          go_simp
                          apply hK
                          · rfl
                          · conv => (lhs; whnf)
                          · exact hwi
                        simp only [put_lit, put_none, List.set_cons_succ, List.set_cons_zero]
                        apply Oblig.cons
                        case h =>
                          intro S w1 hwi hSi hd hcl
                          apply StepOk.intro
                          intro K hK
                          have F := HF.out _ hwi.1
                          go_simp
                          apply hK
                          · rfl
                          · conv => (lhs; whnf)
                          · exact hwi
                        simp only [put_lit, put_none, List.set_cons_succ, List.set_cons_zero]
                        apply Oblig.cons
                        case h =>
                          intro S w1 hwi hSi hd hcl
                          apply StepOk.intro
                          intro K hK
                          have F := HF.out _ hwi.1
                          go_simp
                          apply hK
                          · rfl
                          · conv => (lhs; whnf)
                          · exact hwi
                        simp only [put_lit, put_none, List.set_cons_succ, List.set_cons_zero]
                        apply Oblig.cons
                        case h =>
                          intro S w1 hwi hSi hd hcl
                          apply StepOk.intro
                          intro K hK
                          have F := HF.out _ hwi.1
                          go_simp
                          apply hK
                          · rfl
                          · conv => (lhs; whnf)
                          · exact hwi
                        simp only [put_lit, put_none, List.set_cons_succ, List.set_cons_zero]
                        apply Oblig.cons
                        case h =>
                          intro S w1 hwi hSi hd hcl
                          apply StepOk.intro
                          intro K hK
                          have F := HF.out _ hwi.1
                          go_simp
                          apply hK
                          · rfl
                          · conv => (lhs; whnf)
                          · exact hwi
                        simp only [put_lit, put_none, List.set_cons_succ, List.set_cons_zero]
                        apply Oblig.cons
                        case h =>
                          intro S w1 hwi hSi hd hcl
                          apply StepOk.intro
                          intro K hK
                          have F := HF.out _ hwi.1
                          go_simp
                          apply hK
                          · rfl
                          · conv => (lhs; whnf)
                          · exact hwi
                        simp only [put_lit, put_none, List.set_cons_succ, List.set_cons_zero]
                        apply Oblig.cons
                        case h =>
                          intro S w1 hwi hSi hd hcl
                          apply StepOk.intro
                          intro K hK
                          have F := HF.out _ hwi.1
                          go_simp
                          apply hK
                          · rfl
                          · conv => (lhs; whnf)
                          · exact hwi
                        simp only [put_lit, put_none, List.set_cons_succ, List.set_cons_zero]
                        apply Oblig.cons
                        case h =>
                          intro S w1 hwi hSi hd hcl
                          apply StepOk.intro
                          intro K hK
                          have F := HF.out _ hwi.1
                          go_simp
                          apply hK
                          · rfl
                          · conv => (lhs; whnf)
                          · exact hwi
                        simp only [put_lit, put_none, List.set_cons_succ, List.set_cons_zero]
                        apply Oblig.cons
                        case h =>
                          intro S w1 hwi hSi hd hcl
                          apply StepOk.intro
                          intro K hK
                          have F := HF.out _ hwi.1
                          go_simp
                          apply hK
                          · rfl
                          · conv => (lhs; whnf)
                          · exact hwi
                        simp only [put_lit, put_none, List.set_cons_succ, List.set_cons_zero]
                        apply Oblig.cons
                        case h =>
                          intro S w1 hwi hSi hd hcl
                          apply StepOk.intro
                          intro K hK
                          have F := HF.out _ hwi.1
                          go_simp
                          apply hK
                          · rfl
                          · conv => (lhs; whnf)
                          · exact hwi
                        simp only [put_lit, put_none, List.set_cons_succ, List.set_cons_zero]
                        apply Oblig.cons
                        case h =>
                          intro S w1 hwi hSi hd hcl
                          apply StepOk.intro
                          intro K hK
                          have F := HF.out _ hwi.1
                          go_simp
                          apply hK
                          · rfl
                          · conv => (lhs; whnf)
                          · exact hwi
                        simp only [put_lit, put_none, List.set_cons_succ, List.set_cons_zero]
                        apply Oblig.cons
                        case h =>
                          intro S w1 hwi hSi hd hcl
                          apply StepOk.intro
                          intro K hK
                          have F := HF.out _ hwi.1
                          have h0 := hwi.2.1 hSi
                          obtain ⟨c1, f1, z1⟩ := HCW.out _ h0
                          go_simp
                          apply hK
                          · rfl
                          · conv => (lhs; whnf)
                          · exact ⟨hwi.1.set _ _ (fun _ => rfl), fun h => by simp [upd] at h, fun _ => (h0.set q (i64 (ob))).cast (ints_set _ _ _)⟩
                        simp only [put_lit, put_none, List.set_cons_succ, List.set_cons_zero]
                        exact Oblig.nil
                      case h0 =>
                        exact ⟨HKR.out.drew, fun _ => HV.out.drew, fun h => by cases h⟩
                      case hend =>
                        intro S wx hwi hall
                        have HVn := hid (hwi.2.2 (hall 12 (by decide)))
                        have HKn := hid hwi.1
                        clear hwi hall HV HKR
                        have HV := HVn
                        have HKR := HKn
                        have F := HF.out _ HKR.out
                        obtain ⟨c1, f1, z1⟩ := HCY.out _ HV.out
                        go_wp2_with fail
                        clear F c1 f1 z1
                        apply wp_region_text (WI := fun S wx => Blk wx w6.heap.size 3 (ints (W.set q ob)) ∧ Keep (fun k => k = w6.heap.size) w7 wx) (by kernel_rfl) (by kernel_rfl)
                        case hob =>
                          apply Oblig.cons
                          case h =>
                            intro S w1 hwi hSi hd hcl
                            apply StepOk.intro
                            intro K hK
                            have F := HF.out _ hwi.2
                            obtain ⟨c1, f1, z1⟩ := HCY.out _ hwi.1
                            go_simp
                            apply hK
                            · rfl
                            · conv => (lhs; whnf)
                            · exact hwi
                          simp only [put_lit, put_none, List.set_cons_succ, List.set_cons_zero]
                          apply Oblig.cons
                          case h =>
                            intro S w1 hwi hSi hd hcl
                            apply StepOk.intro
                            intro K hK
                            have F := HF.out _ hwi.2
                            obtain ⟨c1, f1, z1⟩ := HCY.out _ hwi.1
                            go_simp
                            apply hK
                            · rfl
                            · conv => (lhs; whnf)
                            · exact hwi
                          simp only [put_lit, put_none, List.set_cons_succ, List.set_cons_zero]
                          apply Oblig.cons
                          case h =>
                            intro S w1 hwi hSi hd hcl
                            apply StepOk.intro
                            intro K hK
                            have F := HF.out _ hwi.2
                            obtain ⟨c1, f1, z1⟩ := HCY.out _ hwi.1
                            go_simp
                            apply hK
                            · rfl
                            · conv => (lhs; whnf)
                            · exact hwi
                          simp only [put_lit, put_none, List.set_cons_succ, List.set_cons_zero]
                          apply Oblig.cons
                          case h =>
                            intro S w1 hwi hSi hd hcl
                            apply StepOk.intro
                            intro K hK
                            have F := HF.out _ hwi.2
                            obtain ⟨c1, f1, z1⟩ := HCY.out _ hwi.1
                            go_simp
                            apply hK
                            · rfl
                            · conv => (lhs; whnf)
                            · exact hwi
                          simp only [put_lit, put_none, List.set_cons_succ, List.set_cons_zero]
                          apply Oblig.cons
                          case h =>
                            intro S w1 hwi hSi hd hcl
                            apply StepOk.intro
                            intro K hK
                            have F := HF.out _ hwi.2
                            obtain ⟨c1, f1, z1⟩ := HCY.out _ hwi.1
                            go_simp
                            apply hK
                            · rfl
                            · conv => (lhs; whnf)
                            · exact hwi
                          simp only [put_lit, put_none, List.set_cons_succ, List.set_cons_zero]
                          apply Oblig.cons
                          case h =>
                            intro S w1 hwi hSi hd hcl
                            apply StepOk.intro
                            intro K hK
                            have F := HF.out _ hwi.2
                            obtain ⟨c1, f1, z1⟩ := HCY.out _ hwi.1
                            go_simp
                            apply hK
                            · rfl
                            · conv => (lhs; whnf)
                            · exact hwi
                          simp only [put_lit, put_none, List.set_cons_succ, List.set_cons_zero]
                          apply Oblig.cons
                          case h =>
                            intro S w1 hwi hSi hd hcl
                            apply StepOk.intro
                            intro K hK
                            have F := HF.out _ hwi.2
                            obtain ⟨c1, f1, z1⟩ := HCY.out _ hwi.1
                            go_simp
                            apply hK
                            · rfl
                            · conv => (lhs; whnf)
                            · exact hwi
                          simp only [put_lit, put_none, List.set_cons_succ, List.set_cons_zero]
                          apply Oblig.cons
                          case h =>
                            intro S w1 hwi hSi hd hcl
                            apply StepOk.intro
                            intro K hK
                            have F := HF.out _ hwi.2
                            obtain ⟨c1, f1, z1⟩ := HCY.out _ hwi.1
                            go_simp
                            apply hK
                            · rfl
                            · conv => (lhs; whnf)
                            · exact hwi
                          simp only [put_lit, put_none, List.set_cons_succ, List.set_cons_zero]
                          apply Oblig.cons
                          case h =>
                            intro S w1 hwi hSi hd hcl
                            apply StepOk.intro
                            intro K hK
                            have F := HF.out _ hwi.2
                            obtain ⟨c1, f1, z1⟩ := HCY.out _ hwi.1
                            go_simp
                            apply hK
                            · rfl
                            · conv => (lhs; whnf)
                            · exact hwi
                          simp only [put_lit, put_none, List.set_cons_succ, List.set_cons_zero]
                          apply Oblig.cons
                          case h =>
                            intro S w1 hwi hSi hd hcl
                            apply StepOk.intro
                            intro K hK
                            have F := HF.out _ hwi.2
                            obtain ⟨c1, f1, z1⟩ := HCY.out _ hwi.1
                            go_simp
                            apply hK
                            · rfl
                            · conv => (lhs; whnf)
                            · exact hwi
                          simp only [put_lit, put_none, List.set_cons_succ, List.set_cons_zero]
                          apply Oblig.cons
                          case h =>
                            intro S w1 hwi hSi hd hcl
                            apply StepOk.intro
                            intro K hK
                            have F := HF.out _ hwi.2
                            obtain ⟨c1, f1, z1⟩ := HCY.out _ hwi.1
                            go_simp
                            apply hK
                            · rfl
                            · conv => (lhs; whnf)
                            · exact hwi
                          simp only [put_lit, put_none, List.set_cons_succ, List.set_cons_zero]
                          apply Oblig.cons
                          case h =>
                            intro S w1 hwi hSi hd hcl
                            apply StepOk.intro
                            intro K hK
                            have F := HF.out _ hwi.2
                            obtain ⟨c1, f1, z1⟩ := HCY.out _ hwi.1
                            go_simp
                            apply hK
                            · rfl
                            · conv => (lhs; whnf)
                            · exact hwi
                          simp only [put_lit, put_none, List.set_cons_succ, List.set_cons_zero]
                          apply Oblig.cons
                          case h =>
                            intro S w1 hwi hSi hd hcl
                            apply StepOk.intro
                            intro K hK
                            have F := HF.out _ hwi.2
                            obtain ⟨c1, f1, z1⟩ := HCY.out _ hwi.1
                            go_simp
                            apply hK
                            · rfl
                            · conv => (lhs; whnf)
                            · exact hwi
                          simp only [put_lit, put_none, List.set_cons_succ, List.set_cons_zero]
                          apply Oblig.cons
                          case h =>
                            intro S w1 hwi hSi hd hcl
                            apply StepOk.intro
                            intro K hK
                            have F := HF.out _ hwi.2
                            obtain ⟨c1, f1, z1⟩ := HCY.out _ hwi.1
                            go_simp
                            apply hK
                            · rfl
                            · conv => (lhs; whnf)
                            · exact hwi
                          simp only [put_lit, put_none, List.set_cons_succ, List.set_cons_zero]
                          apply Oblig.cons
                          case h =>
                            intro S w1 hwi hSi hd hcl
                            apply StepOk.intro
                            intro K hK
                            have F := HF.out _ hwi.2
                            obtain ⟨c1, f1, z1⟩ := HCY.out _ hwi.1
                            go_simp
                            apply hK
                            · rfl
                            · conv => (lhs; whnf)
                            · exact hwi
                          simp only [put_lit, put_none, List.set_cons_succ, List.set_cons_zero]
                          apply Oblig.cons
                          case h =>
                            intro S w1 hwi hSi hd hcl
                            apply StepOk.intro
                            intro K hK
                            have F := HF.out _ hwi.2
                            obtain ⟨c1, f1, z1⟩ := HCY.out _ hwi.1
                            go_simp
                            apply hK
                            · rfl
                            · conv => (lhs; whnf)
                            · exact hwi
                          simp only [put_lit, put_none, List.set_cons_succ, List.set_cons_zero]
                          apply Oblig.cons
                          case h =>
                            intro S w1 hwi hSi hd hcl
                            apply StepOk.intro
                            intro K hK
                            have F := HF.out _ hwi.2
                            obtain ⟨c1, f1, z1⟩ := HCY.out _ hwi.1
                            go_simp
                            apply hK
                            · rfl
                            · conv => (lhs; whnf)
                            · exact hwi
                          simp only [put_lit, put_none, List.set_cons_succ, List.set_cons_zero]
                          apply Oblig.cons
                          case h =>
                            intro S w1 hwi hSi hd hcl
                            apply StepOk.intro
                            intro K hK
                            have F := HF.out _ hwi.2
                            obtain ⟨c1, f1, z1⟩ := HCY.out _ hwi.1
                            go_simp
                            apply hK
                            · rfl
                            · conv => (lhs; whnf)
                            · exact hwi
                          simp only [put_lit, put_none, List.set_cons_succ, List.set_cons_zero]
                          apply Oblig.cons
                          case h =>
                            intro S w1 hwi hSi hd hcl
                            apply StepOk.intro
                            intro K hK
                            have F := HF.out _ hwi.2
                            obtain ⟨c1, f1, z1⟩ := HCY.out _ hwi.1
                            go_simp
                            apply hK
                            · rfl
                            · conv => (lhs; whnf)
                            · exact hwi
                          simp only [put_lit, put_none, List.set_cons_succ, List.set_cons_zero]
                          apply Oblig.cons
                          case h =>
                            intro S w1 hwi hSi hd hcl
                            apply StepOk.intro
                            intro K hK
                            have F := HF.out _ hwi.2
                            obtain ⟨c1, f1, z1⟩ := HCY.out _ hwi.1
                            go_simp
                            apply hK
                            · rfl
                            · conv => (lhs; whnf)
                            · exact hwi
                          simp only [put_lit, put_none, List.set_cons_succ, List.set_cons_zero]
                          apply Oblig.cons
                          case h =>
                            intro S w1 hwi hSi hd hcl
                            apply StepOk.intro
                            intro K hK
                            have F := HF.out _ hwi.2
                            obtain ⟨c1, f1, z1⟩ := HCY.out _ hwi.1
                            go_simp
                            apply hK
                            · rfl
                            · conv => (lhs; whnf)
                            · exact hwi
                          simp only [put_lit, put_none, List.set_cons_succ, List.set_cons_zero]
                          apply Oblig.cons
                          case h =>
                            intro S w1 hwi hSi hd hcl
                            apply StepOk.intro
                            intro K hK
                            have F := HF.out _ hwi.2
                            obtain ⟨c1, f1, z1⟩ := HCY.out _ hwi.1
                            go_simp
                            apply hK
                            · rfl
                            · conv => (lhs; whnf)
                            · exact hwi
                          simp only [put_lit, put_none, List.set_cons_succ, List.set_cons_zero]
                          apply Oblig.cons
                          case h =>
                            intro S w1 hwi hSi hd hcl
                            apply StepOk.intro
                            intro K hK
                            have F := HF.out _ hwi.2
                            obtain ⟨c1, f1, z1⟩ := HCY.out _ hwi.1
                            go_simp
                            apply hK
                            · rfl
                            · conv => (lhs; whnf)
                            · exact hwi
                          simp only [put_lit, put_none, List.set_cons_succ, List.set_cons_zero]
                          apply Oblig.cons
                          case h =>
                            intro S w1 hwi hSi hd hcl
                            apply StepOk.intro
                            intro K hK
                            have F := HF.out _ hwi.2
                            obtain ⟨c1, f1, z1⟩ := HCY.out _ hwi.1
                            go_simp
                            apply hK
                            · rfl
                            · conv => (lhs; whnf)
                            · exact hwi
                          simp only [put_lit, put_none, List.set_cons_succ, List.set_cons_zero]
                          apply Oblig.cons
                          case h =>
                            intro S w1 hwi hSi hd hcl
                            apply StepOk.intro
                            intro K hK
                            have F := HF.out _ hwi.2
                            obtain ⟨c1, f1, z1⟩ := HCY.out _ hwi.1
                            go_simp
                            apply hK
                            · rfl
                            · conv => (lhs; whnf)
                            · exact hwi
                          simp only [put_lit, put_none, List.set_cons_succ, List.set_cons_zero]
                          apply Oblig.cons
                          case h =>
                            intro S w1 hwi hSi hd hcl
                            apply StepOk.intro
                            intro K hK
                            have F := HF.out _ hwi.2
                            obtain ⟨c1, f1, z1⟩ := HCY.out _ hwi.1
                            go_simp
                            apply hK
                            · rfl
                            · conv => (lhs; whnf)
                            · exact hwi
                          simp only [put_lit, put_none, List.set_cons_succ, List.set_cons_zero]
                          apply Oblig.cons
                          case h =>
                            intro S w1 hwi hSi hd hcl
                            apply StepOk.intro
                            intro K hK
                            have F := HF.out _ hwi.2
                            obtain ⟨c1, f1, z1⟩ := HCY.out _ hwi.1
                            go_simp
                            apply hK
                            · rfl
                            · conv => (lhs; whnf)
                            · exact hwi
                          simp only [put_lit, put_none, List.set_cons_succ, List.set_cons_zero]
                          apply Oblig.cons
                          case h =>
                            intro S w1 hwi hSi hd hcl
                            apply StepOk.intro
                            intro K hK
                            have F := HF.out _ hwi.2
                            obtain ⟨c1, f1, z1⟩ := HCY.out _ hwi.1
                            go_simp
                            apply hK
                            · rfl
                            · conv => (lhs; whnf)
                            · exact hwi
                          simp only [put_lit, put_none, List.set_cons_succ, List.set_cons_zero]
                          apply Oblig.cons
                          case h =>
                            intro S w1 hwi hSi hd hcl
                            apply StepOk.intro
                            intro K hK
                            have F := HF.out _ hwi.2
                            obtain ⟨c1, f1, z1⟩ := HCY.out _ hwi.1
                            go_simp
                            apply hK
                            · rfl
                            · conv => (lhs; whnf)
                            · exact hwi
                          simp only [put_lit, put_none, List.set_cons_succ, List.set_cons_zero]
                          apply Oblig.cons
                          case h =>
                            intro S w1 hwi hSi hd hcl
                            apply StepOk.intro
                            intro K hK
                            have F := HF.out _ hwi.2
                            obtain ⟨c1, f1, z1⟩ := HCY.out _ hwi.1
                            go_simp
                            apply hK
                            · rfl
                            · conv => (lhs; whnf)
                            · exact hwi
                          simp only [put_lit, put_none, List.set_cons_succ, List.set_cons_zero]
                          apply Oblig.cons
                          case h =>
                            intro S w1 hwi hSi hd hcl
                            apply StepOk.intro
                            intro K hK
                            have F := HF.out _ hwi.2
                            obtain ⟨c1, f1, z1⟩ := HCY.out _ hwi.1
                            go_simp
                            apply hK
                            · rfl
                            · conv => (lhs; whnf)
                            · exact hwi
                          simp only [put_lit, put_none, List.set_cons_succ, List.set_cons_zero]
                          apply Oblig.cons
                          case h =>
                            intro S w1 hwi hSi hd hcl
                            apply StepOk.intro
                            intro K hK
                            have F := HF.out _ hwi.2
                            obtain ⟨c1, f1, z1⟩ := HCY.out _ hwi.1
                            go_simp
                            apply hK
                            · rfl
                            · conv => (lhs; whnf)
                            · exact hwi
                          simp only [put_lit, put_none, List.set_cons_succ, List.set_cons_zero]
                          apply Oblig.cons
                          case h =>
                            intro S w1 hwi hSi hd hcl
                            apply StepOk.intro
                            intro K hK
                            have F := HF.out _ hwi.2
                            obtain ⟨c1, f1, z1⟩ := HCY.out _ hwi.1
                            go_simp
                            apply hK
                            · rfl
                            · conv => (lhs; whnf)
                            · exact hwi
                          simp only [put_lit, put_none, List.set_cons_succ, List.set_cons_zero]
                          exact Oblig.nil
                        case h0 =>
                          exact ⟨HV.out.drew, HKR.out.drew⟩
                        case hend =>
                          intro S wx hwi hall
                          have HVn := hid hwi.1
                          have HKn := hid hwi.2
                          clear hwi hall HV HKR
                          have HV := HVn
                          have HKR := HKn
                          have F := HF.out _ HKR.out
                          obtain ⟨c1, f1, z1⟩ := HCY.out _ HV.out
                          go_wp2_with fail
                          go_roundw
                          case rel => exact ⟨i + 1, by omega, by go_num, by rw [HNX.out]; exact HV.out, HKR.out⟩
                          case measure => simp [intOf]; omega
                · as_aux_lemma =>
                    have hb' : (rd W q == oa) = false := by simpa using hb
                    obtain rfl : oa = xa := by rw [← hxa]; simp [accOf]
                    obtain rfl : ob = xb := by rw [← hxb]; simp [accOf]
                    obtain rfl : xo = false := by rw [← hxo]; simp [accOf, hb]
                    clear hxa hxb hxo
                    have HNX := hid (hnx.trans (show opW ⟨3, (q : Int), oa, ob⟩ W = W from by simp [opW, casW, hb]))
                    clear hnx
                    clear hb
                    go_wp2_with fail
                    clear F c1 f1 z1
                    apply wp_region_text (WI := fun S wx => Blk wx w6.heap.size 3 (ints (W)) ∧ Keep (fun k => k = w6.heap.size) w7 wx) (by kernel_rfl) (by kernel_rfl)
                    case hob =>
                      apply Oblig.cons
                      case h =>
                        intro S w1 hwi hSi hd hcl
                        apply StepOk.intro
                        intro K hK
                        have F := HF.out _ hwi.2
                        obtain ⟨c1, f1, z1⟩ := HCW.out _ hwi.1
                        go_simp
                        apply hK
                        · rfl
                        · conv => (lhs; whnf)
                        · exact hwi
                      simp only [put_lit, put_none, List.set_cons_succ, List.set_cons_zero]
                      apply Oblig.cons
                      case h =>
                        intro S w1 hwi hSi hd hcl
                        apply StepOk.intro
                        intro K hK
                        have F := HF.out _ hwi.2
                        obtain ⟨c1, f1, z1⟩ := HCW.out _ hwi.1
                        go_simp
                        apply hK
                        · rfl
                        · conv => (lhs; whnf)
                        · exact hwi
                      simp only [put_lit, put_none, List.set_cons_succ, List.set_cons_zero]
                      apply Oblig.cons
                      case h =>
                        intro S w1 hwi hSi hd hcl
                        apply StepOk.intro
                        intro K hK
                        have F := HF.out _ hwi.2
                        obtain ⟨c1, f1, z1⟩ := HCW.out _ hwi.1
                        go_simp
                        apply hK
                        · rfl
                        · conv => (lhs; whnf)
                        · exact hwi
                      simp only [put_lit, put_none, List.set_cons_succ, List.set_cons_zero]
                      apply Oblig.cons
                      case h =>
                        intro S w1 hwi hSi hd hcl
                        apply StepOk.intro
                        intro K hK
                        have F := HF.out _ hwi.2
                        obtain ⟨c1, f1, z1⟩ := HCW.out _ hwi.1
                        go_simp
                        apply hK
                        · rfl
                        · conv => (lhs; whnf)
                        · exact hwi
                      simp only [put_lit, put_none, List.set_cons_succ, List.set_cons_zero]
                      apply Oblig.cons
                      case h =>
                        intro S w1 hwi hSi hd hcl
                        apply StepOk.intro
                        intro K hK
                        have F := HF.out _ hwi.2
                        obtain ⟨c1, f1, z1⟩ := HCW.out _ hwi.1
                        go_simp
                        apply hK
                        · rfl
                        · conv => (lhs; whnf)
                        · exact hwi
                      simp only [put_lit, put_none, List.set_cons_succ, List.set_cons_zero]
                      apply Oblig.cons
                      case h =>
                        intro S w1 hwi hSi hd hcl
                        apply StepOk.intro
                        intro K hK
                        have F := HF.out _ hwi.2
                        obtain ⟨c1, f1, z1⟩ := HCW.out _ hwi.1
                        go_simp
                        apply hK
                        · rfl
                        · conv => (lhs; whnf)
                        · exact hwi
                      simp only [put_lit, put_none, List.set_cons_succ, List.set_cons_zero]
                      apply Oblig.cons
                      case h =>
                        intro S w1 hwi hSi hd hcl
                        apply StepOk.intro
                        intro K hK
                        have F := HF.out _ hwi.2
                        obtain ⟨c1, f1, z1⟩ := HCW.out _ hwi.1
                        go_simp
                        apply hK
                        · rfl
                        · conv => (lhs; whnf)
                        · exact hwi
                      simp only [put_lit, put_none, List.set_cons_succ, List.set_cons_zero]
                      apply Oblig.cons
                      case h =>
                        intro S w1 hwi hSi hd hcl
                        apply StepOk.intro
                        intro K hK
                        have F := HF.out _ hwi.2
                        obtain ⟨c1, f1, z1⟩ := HCW.out _ hwi.1
                        go_simp
                        apply hK
                        · rfl
                        · conv => (lhs; whnf)
                        · exact hwi
                      simp only [put_lit, put_none, List.set_cons_succ, List.set_cons_zero]
                      apply Oblig.cons
                      case h =>
                        intro S w1 hwi hSi hd hcl
                        apply StepOk.intro
                        intro K hK
                        have F := HF.out _ hwi.2
                        obtain ⟨c1, f1, z1⟩ := HCW.out _ hwi.1
                        go_simp
                        apply hK
                        · rfl
                        · conv => (lhs; whnf)
                        · exact hwi
                      simp only [put_lit, put_none, List.set_cons_succ, List.set_cons_zero]
                      apply Oblig.cons
                      case h =>
                        intro S w1 hwi hSi hd hcl
                        apply StepOk.intro
                        intro K hK
                        have F := HF.out _ hwi.2
                        obtain ⟨c1, f1, z1⟩ := HCW.out _ hwi.1
                        go_simp
                        apply hK
                        · rfl
                        · conv => (lhs; whnf)
                        · exact hwi
                      simp only [put_lit, put_none, List.set_cons_succ, List.set_cons_zero]
                      apply Oblig.cons
                      case h =>
                        intro S w1 hwi hSi hd hcl
                        apply StepOk.intro
                        intro K hK
                        have F := HF.out _ hwi.2
                        obtain ⟨c1, f1, z1⟩ := HCW.out _ hwi.1
                        go_simp
                        apply hK
                        · rfl
                        · conv => (lhs; whnf)
                        · exact hwi
                      simp only [put_lit, put_none, List.set_cons_succ, List.set_cons_zero]
                      apply Oblig.cons
                      case h =>
                        intro S w1 hwi hSi hd hcl
                        apply StepOk.intro
                        intro K hK
                        have F := HF.out _ hwi.2
                        obtain ⟨c1, f1, z1⟩ := HCW.out _ hwi.1
                        go_simp
                        apply hK
                        · rfl
                        · conv => (lhs; whnf)
                        · exact hwi
                      simp only [put_lit, put_none, List.set_cons_succ, List.set_cons_zero]
                      apply Oblig.cons
                      case h =>
                        intro S w1 hwi hSi hd hcl
                        apply StepOk.intro
                        intro K hK
                        have F := HF.out _ hwi.2
                        obtain ⟨c1, f1, z1⟩ := HCW.out _ hwi.1
                        go_simp
                        apply hK
                        · rfl
                        · conv => (lhs; whnf)
                        · exact hwi
                      simp only [put_lit, put_none, List.set_cons_succ, List.set_cons_zero]
                      apply Oblig.cons
                      case h =>
                        intro S w1 hwi hSi hd hcl
                        apply StepOk.intro
                        intro K hK
                        have F := HF.out _ hwi.2
                        obtain ⟨c1, f1, z1⟩ := HCW.out _ hwi.1
                        go_simp
                        apply hK
                        · rfl
                        · conv => (lhs; whnf)
                        · exact hwi
                      simp only [put_lit, put_none, List.set_cons_succ, List.set_cons_zero]
                      apply Oblig.cons
                      case h =>
                        intro S w1 hwi hSi hd hcl
                        apply StepOk.intro
                        intro K hK
                        have F := HF.out _ hwi.2
                        obtain ⟨c1, f1, z1⟩ := HCW.out _ hwi.1
                        go_simp
                        apply hK
                        · rfl
                        · conv => (lhs; whnf)
                        · exact hwi
                      simp only [put_lit, put_none, List.set_cons_succ, List.set_cons_zero]
                      exact Oblig.nil
                    case h0 =>
                      exact ⟨HV.out.drew, HKR.out.drew⟩
                    case hend =>
                      intro S wx hwi hall
                      have HVn := hid hwi.1
                      have HKn := hid hwi.2
                      clear hwi hall HV HKR
                      have HV := HVn
                      have HKR := HKn
                      have F := HF.out _ HKR.out
                      obtain ⟨c1, f1, z1⟩ := HCW.out _ HV.out
                      go_wp2_with fail
                      clear F c1 f1 z1
                      apply wp_region_text (WI := fun S wx => Blk wx w6.heap.size 3 (ints (W)) ∧ Keep (fun k => k = w6.heap.size) w7 wx) (by kernel_rfl) (by kernel_rfl)
                      case hob =>
                        apply Oblig.cons
                        case h =>
                          intro S w1 hwi hSi hd hcl
                          apply StepOk.intro
                          intro K hK
                          have F := HF.out _ hwi.2
                          obtain ⟨c1, f1, z1⟩ := HCW.out _ hwi.1
                          go_simp
                          apply hK
                          · rfl
                          · conv => (lhs; whnf)
                          · exact hwi
                        simp only [put_lit, put_none, List.set_cons_succ, List.set_cons_zero]
                        apply Oblig.cons
                        case h =>
                          intro S w1 hwi hSi hd hcl
                          apply StepOk.intro
                          intro K hK
                          have F := HF.out _ hwi.2
                          obtain ⟨c1, f1, z1⟩ := HCW.out _ hwi.1
                          go_simp
                          apply hK
                          · rfl
                          · conv => (lhs; whnf)
                          · exact hwi
                        simp only [put_lit, put_none, List.set_cons_succ, List.set_cons_zero]
                        apply Oblig.cons
                        case h =>
                          intro S w1 hwi hSi hd hcl
                          apply StepOk.intro
                          intro K hK
                          have F := HF.out _ hwi.2
                          obtain ⟨c1, f1, z1⟩ := HCW.out _ hwi.1
                          go_simp
                          apply hK
                          · rfl
                          · conv => (lhs; whnf)
                          · exact hwi
                        simp only [put_lit, put_none, List.set_cons_succ, List.set_cons_zero]
                        apply Oblig.cons
                        case h =>
                          intro S w1 hwi hSi hd hcl
                          apply StepOk.intro
                          intro K hK
                          have F := HF.out _ hwi.2
                          obtain ⟨c1, f1, z1⟩ := HCW.out _ hwi.1
                          go_simp
                          apply hK
                          · rfl
                          · conv => (lhs; whnf)
                          · exact hwi
                        simp only [put_lit, put_none, List.set_cons_succ, List.set_cons_zero]
                        apply Oblig.cons
                        case h =>
                          intro S w1 hwi hSi hd hcl
                          apply StepOk.intro
                          intro K hK
                          have F := HF.out _ hwi.2
                          obtain ⟨c1, f1, z1⟩ := HCW.out _ hwi.1
                          go_simp
                          apply hK
                          · rfl
                          · conv => (lhs; whnf)
                          · exact hwi
                        simp only [put_lit, put_none, List.set_cons_succ, List.set_cons_zero]
                        apply Oblig.cons
                        case h =>
                          intro S w1 hwi hSi hd hcl
                          apply StepOk.intro
                          intro K hK
                          have F := HF.out _ hwi.2
                          obtain ⟨c1, f1, z1⟩ := HCW.out _ hwi.1
                          go_simp
                          apply hK
                          · rfl
                          · conv => (lhs; whnf)
                          · exact hwi
                        simp only [put_lit, put_none, List.set_cons_succ, List.set_cons_zero]
                        apply Oblig.cons
                        case h =>
                          intro S w1 hwi hSi hd hcl
                          apply StepOk.intro
                          intro K hK
                          have F := HF.out _ hwi.2
                          obtain ⟨c1, f1, z1⟩ := HCW.out _ hwi.1
                          go_simp
                          apply hK
                          · rfl
                          · conv => (lhs; whnf)
                          · exact hwi
                        simp only [put_lit, put_none, List.set_cons_succ, List.set_cons_zero]
                        apply Oblig.cons
                        case h =>
                          intro S w1 hwi hSi hd hcl
                          apply StepOk.intro
                          intro K hK
                          have F := HF.out _ hwi.2
                          obtain ⟨c1, f1, z1⟩ := HCW.out _ hwi.1
                          go_simp
                          apply hK
                          · rfl
                          · conv => (lhs; whnf)
                          · exact hwi
                        simp only [put_lit, put_none, List.set_cons_succ, List.set_cons_zero]
                        apply Oblig.cons
                        case h =>
                          intro S w1 hwi hSi hd hcl
                          apply StepOk.intro
                          intro K hK
                          have F := HF.out _ hwi.2
                          obtain ⟨c1, f1, z1⟩ := HCW.out _ hwi.1
                          go_simp
                          apply hK
                          · rfl
                          · conv => (lhs; whnf)
                          · exact hwi
                        simp only [put_lit, put_none, List.set_cons_succ, List.set_cons_zero]
                        apply Oblig.cons
                        case h =>
                          intro S w1 hwi hSi hd hcl
                          apply StepOk.intro
                          intro K hK
                          have F := HF.out _ hwi.2
                          obtain ⟨c1, f1, z1⟩ := HCW.out _ hwi.1
                          go_simp
                          apply hK
                          · rfl
                          · conv => (lhs; whnf)
                          · exact hwi
                        simp only [put_lit, put_none, List.set_cons_succ, List.set_cons_zero]
                        apply Oblig.cons
                        case h =>
                          intro S w1 hwi hSi hd hcl
                          apply StepOk.intro
                          intro K hK
                          have F := HF.out _ hwi.2
                          obtain ⟨c1, f1, z1⟩ := HCW.out _ hwi.1
                          go_simp
                          apply hK
                          · rfl
                          · conv => (lhs; whnf)
                          · exact hwi
                        simp only [put_lit, put_none, List.set_cons_succ, List.set_cons_zero]
                        apply Oblig.cons
                        case h =>
                          intro S w1 hwi hSi hd hcl
                          apply StepOk.intro
                          intro K hK
                          have F := HF.out _ hwi.2
                          obtain ⟨c1, f1, z1⟩ := HCW.out _ hwi.1
                          go_simp
                          apply hK
                          · rfl
                          · conv => (lhs; whnf)
                          · exact hwi
                        simp only [put_lit, put_none, List.set_cons_succ, List.set_cons_zero]
                        apply Oblig.cons
                        case h =>
                          intro S w1 hwi hSi hd hcl
                          apply StepOk.intro
                          intro K hK
                          have F := HF.out _ hwi.2
                          obtain ⟨c1, f1, z1⟩ := HCW.out _ hwi.1
                          go_simp
                          apply hK
                          · rfl
                          · conv => (lhs; whnf)
                          · exact hwi
                        simp only [put_lit, put_none, List.set_cons_succ, List.set_cons_zero]
                        apply Oblig.cons
                        case h =>
                          intro S w1 hwi hSi hd hcl
                          apply StepOk.intro
                          intro K hK
                          have F := HF.out _ hwi.2
                          obtain ⟨c1, f1, z1⟩ := HCW.out _ hwi.1
                          go_simp
                          apply hK
                          · rfl
                          · conv => (lhs; whnf)
                          · exact hwi
                        simp only [put_lit, put_none, List.set_cons_succ, List.set_cons_zero]
                        apply Oblig.cons
                        case h =>
                          intro S w1 hwi hSi hd hcl
                          apply StepOk.intro
                          intro K hK
                          have F := HF.out _ hwi.2
                          obtain ⟨c1, f1, z1⟩ := HCW.out _ hwi.1
                          go_simp
                          apply hK
                          · rfl
                          · conv => (lhs; whnf)
                          · exact hwi
                        simp only [put_lit, put_none, List.set_cons_succ, List.set_cons_zero]
                        apply Oblig.cons
                        case h =>
                          intro S w1 hwi hSi hd hcl
                          apply StepOk.intro
                          intro K hK
                          have F := HF.out _ hwi.2
                          obtain ⟨c1, f1, z1⟩ := HCW.out _ hwi.1
                          go_simp
                          apply hK
                          · rfl
                          · conv => (lhs; whnf)
                          · exact hwi
                        simp only [put_lit, put_none, List.set_cons_succ, List.set_cons_zero]
                        apply Oblig.cons
                        case h =>
                          intro S w1 hwi hSi hd hcl
                          apply StepOk.intro
                          intro K hK
                          have F := HF.out _ hwi.2
                          obtain ⟨c1, f1, z1⟩ := HCW.out _ hwi.1
                          go_simp
                          apply hK
                          · rfl
                          · conv => (lhs; whnf)
                          · exact hwi
                        simp only [put_lit, put_none, List.set_cons_succ, List.set_cons_zero]
                        apply Oblig.cons
                        case h =>
                          intro S w1 hwi hSi hd hcl
                          apply StepOk.intro
                          intro K hK
                          have F := HF.out _ hwi.2
                          obtain ⟨c1, f1, z1⟩ := HCW.out _ hwi.1
                          go_simp
                          apply hK
                          · rfl
                          · conv => (lhs; whnf)
                          · exact hwi
                        simp only [put_lit, put_none, List.set_cons_succ, List.set_cons_zero]
                        apply Oblig.cons
                        case h =>
                          intro S w1 hwi hSi hd hcl
                          apply StepOk.intro
                          intro K hK
                          have F := HF.out _ hwi.2
                          obtain ⟨c1, f1, z1⟩ := HCW.out _ hwi.1
                          go_simp
                          apply hK
                          · rfl
                          · conv => (lhs; whnf)
                          · exact hwi
                        simp only [put_lit, put_none, List.set_cons_succ, List.set_cons_zero]
                        apply Oblig.cons
                        case h =>
                          intro S w1 hwi hSi hd hcl
                          apply StepOk.intro
                          intro K hK
                          have F := HF.out _ hwi.2
                          obtain ⟨c1, f1, z1⟩ := HCW.out _ hwi.1
                          go_simp
                          apply hK
                          · rfl
                          · conv => (lhs; whnf)
                          · exact hwi
                        simp only [put_lit, put_none, List.set_cons_succ, List.set_cons_zero]
                        apply Oblig.cons
                        case h =>
                          intro S w1 hwi hSi hd hcl
                          apply StepOk.intro
                          intro K hK
                          have F := HF.out _ hwi.2
                          obtain ⟨c1, f1, z1⟩ := HCW.out _ hwi.1
                          go_simp
                          apply hK
                          · rfl
                          · conv => (lhs; whnf)
                          · exact hwi
                        simp only [put_lit, put_none, List.set_cons_succ, List.set_cons_zero]
                        apply Oblig.cons
                        case h =>
                          intro S w1 hwi hSi hd hcl
                          apply StepOk.intro
                          intro K hK
                          have F := HF.out _ hwi.2
                          obtain ⟨c1, f1, z1⟩ := HCW.out _ hwi.1
                          go_simp
                          apply hK
                          · rfl
                          · conv => (lhs; whnf)
                          · exact hwi
                        simp only [put_lit, put_none, List.set_cons_succ, List.set_cons_zero]
                        apply Oblig.cons
                        case h =>
                          intro S w1 hwi hSi hd hcl
                          apply StepOk.intro
                          intro K hK
                          have F := HF.out _ hwi.2
                          obtain ⟨c1, f1, z1⟩ := HCW.out _ hwi.1
                          go_simp
                          apply hK
                          · rfl
                          · conv => (lhs; whnf)
                          · exact hwi
                        simp only [put_lit, put_none, List.set_cons_succ, List.set_cons_zero]
                        apply Oblig.cons
                        case h =>
                          intro S w1 hwi hSi hd hcl
                          apply StepOk.intro
                          intro K hK
                          have F := HF.out _ hwi.2
                          obtain ⟨c1, f1, z1⟩ := HCW.out _ hwi.1
                          go_simp
                          apply hK
                          · rfl
                          · conv => (lhs; whnf)
                          · exact hwi
                        simp only [put_lit, put_none, List.set_cons_succ, List.set_cons_zero]
                        apply Oblig.cons
                        case h =>
                          intro S w1 hwi hSi hd hcl
                          apply StepOk.intro
                          intro K hK
                          have F := HF.out _ hwi.2
                          obtain ⟨c1, f1, z1⟩ := HCW.out _ hwi.1
                          go_simp
                          apply hK
                          · rfl
                          · conv => (lhs; whnf)
                          · exact hwi
                        simp only [put_lit, put_none, List.set_cons_succ, List.set_cons_zero]
                        apply Oblig.cons
                        case h =>
                          intro S w1 hwi hSi hd hcl
                          apply StepOk.intro
                          intro K hK
                          have F := HF.out _ hwi.2
                          obtain ⟨c1, f1, z1⟩ := HCW.out _ hwi.1
                          go_simp
                          apply hK
                          · rfl
                          · conv => (lhs; whnf)
                          · exact hwi
                        simp only [put_lit, put_none, List.set_cons_succ, List.set_cons_zero]
                        apply Oblig.cons
                        case h =>
                          intro S w1 hwi hSi hd hcl
                          apply StepOk.intro
                          intro K hK
                          have F := HF.out _ hwi.2
                          obtain ⟨c1, f1, z1⟩ := HCW.out _ hwi.1
                          go_simp
                          apply hK
                          · rfl
                          · conv => (lhs; whnf)
                          · exact hwi
                        simp only [put_lit, put_none, List.set_cons_succ, List.set_cons_zero]
                        apply Oblig.cons
                        case h =>
                          intro S w1 hwi hSi hd hcl
                          apply StepOk.intro
                          intro K hK
                          have F := HF.out _ hwi.2
                          obtain ⟨c1, f1, z1⟩ := HCW.out _ hwi.1
                          go_simp
                          apply hK
                          · rfl
                          · conv => (lhs; whnf)
                          · exact hwi
                        simp only [put_lit, put_none, List.set_cons_succ, List.set_cons_zero]
                        apply Oblig.cons
                        case h =>
                          intro S w1 hwi hSi hd hcl
                          apply StepOk.intro
                          intro K hK
                          have F := HF.out _ hwi.2
                          obtain ⟨c1, f1, z1⟩ := HCW.out _ hwi.1
                          go_simp
                          apply hK
                          · rfl
                          · conv => (lhs; whnf)
                          · exact hwi
                        simp only [put_lit, put_none, List.set_cons_succ, List.set_cons_zero]
                        apply Oblig.cons
                        case h =>
                          intro S w1 hwi hSi hd hcl
                          apply StepOk.intro
                          intro K hK
                          have F := HF.out _ hwi.2
                          obtain ⟨c1, f1, z1⟩ := HCW.out _ hwi.1
                          go_simp
                          apply hK
                          · rfl
                          · conv => (lhs; whnf)
                          · exact hwi
                        simp only [put_lit, put_none, List.set_cons_succ, List.set_cons_zero]
                        apply Oblig.cons
                        case h =>
                          intro S w1 hwi hSi hd hcl
                          apply StepOk.intro
                          intro K hK
                          have F := HF.out _ hwi.2
                          obtain ⟨c1, f1, z1⟩ := HCW.out _ hwi.1
                          go_simp
                          apply hK
                          · rfl
                          · conv => (lhs; whnf)
                          · exact hwi
                        simp only [put_lit, put_none, List.set_cons_succ, List.set_cons_zero]
                        apply Oblig.cons
                        case h =>
                          intro S w1 hwi hSi hd hcl
                          apply StepOk.intro
                          intro K hK
                          have F := HF.out _ hwi.2
                          obtain ⟨c1, f1, z1⟩ := HCW.out _ hwi.1
                          go_simp
                          apply hK
                          · rfl
                          · conv => (lhs; whnf)
                          · exact hwi
                        simp only [put_lit, put_none, List.set_cons_succ, List.set_cons_zero]
                        apply Oblig.cons
                        case h =>
                          intro S w1 hwi hSi hd hcl
                          apply StepOk.intro
                          intro K hK
                          have F := HF.out _ hwi.2
                          obtain ⟨c1, f1, z1⟩ := HCW.out _ hwi.1
                          go_simp
                          apply hK
                          · rfl
                          · conv => (lhs; whnf)
                          · exact hwi
                        simp only [put_lit, put_none, List.set_cons_succ, List.set_cons_zero]
                        exact Oblig.nil
                      case h0 =>
                        exact ⟨HV.out.drew, HKR.out.drew⟩
                      case hend =>
                        intro S wx hwi hall
                        have HVn := hid hwi.1
                        have HKn := hid hwi.2
                        clear hwi hall HV HKR
                        have HV := HVn
                        have HKR := HKn
                        have F := HF.out _ HKR.out
                        obtain ⟨c1, f1, z1⟩ := HCW.out _ HV.out
                        go_wp2_with fail
                        go_roundw
                        case rel => exact ⟨i + 1, by omega, by go_num, by rw [HNX.out]; exact HV.out, HKR.out⟩
                        case measure => simp [intOf]; omega
              · as_aux_lemma =>
                  obtain rfl : oa = xa := by rw [← hxa]; simp [accOf]
                  obtain rfl : xb = 0 := by rw [← hxb]; simp [accOf]
                  obtain rfl : xo = false := by rw [← hxo]; simp [accOf]
                  clear hxa hxb hxo
                  have HNX := hid (hnx.trans (show opW ⟨4, (q : Int), oa, ob⟩ W = W.set q oa from by simp [opW]))
                  clear hnx
                  have HCY := hid (fun (wx : World) (hb : Blk wx w6.heap.size 3 (ints (W.set q (oa)))) => (show wx.cell? ⟨w6.heap.size, q, none⟩ = some (i64 (oa)) ∧ (∀ o, wx.frozen? ⟨w6.heap.size, o, none⟩ = false) ∧ w6.heap.size < wx.heap.size from ⟨by rw [hb.cell q, ints_get _ q (by rw [List.length_set, HWL.out]; exact hqK), rd_set_same _ _ _ (by rw [HWL.out]; exact hqK)], hb.frozen, hb.lt⟩))
                  go_wp2_with fail
                  clear F c1 f1 z1
                  apply wp_region_text (WI := fun S wx => Keep (fun k => k = w6.heap.size) w7 wx ∧ (S 12 = false → Blk wx w6.heap.size 3 (ints W)) ∧ (S 12 = true → Blk wx w6.heap.size 3 (ints (W.set q (oa))))) (by kernel_rfl) (by kernel_rfl)
                  case hob =>
                    apply Oblig.cons
                    case h =>
                      intro S w1 hwi hSi hd hcl
                      apply StepOk.intro
                      intro K hK
                      have F := HF.out _ hwi.1
                      go_simp
                      apply hK
                      · rfl
                      · conv => (lhs; whnf)
                      · exact hwi
                    simp only [put_lit, put_none, List.set_cons_succ, List.set_cons_zero]
                    apply Oblig.cons
                    case h =>
                      intro S w1 hwi hSi hd hcl
                      apply StepOk.intro
                      intro K hK
                      have F := HF.out _ hwi.1
                      go_simp
                      apply hK
                      · rfl
                      · conv => (lhs; whnf)
                      · exact hwi
                    simp only [put_lit, put_none, List.set_cons_succ, List.set_cons_zero]
                    apply Oblig.cons
                    case h =>
                      intro S w1 hwi hSi hd hcl
                      apply StepOk.intro
                      intro K hK
                      have F := HF.out _ hwi.1
                      go_simp
                      apply hK
                      · rfl
                      · conv => (lhs; whnf)
                      · exact hwi
                    simp only [put_lit, put_none, List.set_cons_succ, List.set_cons_zero]
                    apply Oblig.cons
                    case h =>
                      intro S w1 hwi hSi hd hcl
                      apply StepOk.intro
                      intro K hK
                      have F := HF.out _ hwi.1
                      go_simp
                      apply hK
                      · rfl
                      · conv => (lhs; whnf)
                      · exact hwi
                    simp only [put_lit, put_none, List.set_cons_succ, List.set_cons_zero]
                    apply Oblig.cons
                    case h =>
                      intro S w1 hwi hSi hd hcl
                      apply StepOk.intro
                      intro K hK
                      have F := HF.out _ hwi.1
                      go_simp
                      apply hK
                      · rfl
                      · conv => (lhs; whnf)
                      · exact hwi
                    simp only [put_lit, put_none, List.set_cons_succ, List.set_cons_zero]
                    apply Oblig.cons
                    case h =>
                      intro S w1 hwi hSi hd hcl
                      apply StepOk.intro
                      intro K hK
                      have F := HF.out _ hwi.1
                      go_simp
                      apply hK
                      · rfl
                      · conv => (lhs; whnf)
                      · exact hwi
                    simp only [put_lit, put_none, List.set_cons_succ, List.set_cons_zero]
                    apply Oblig.cons
                    case h =>
                      intro S w1 hwi hSi hd hcl
                      apply StepOk.intro
                      intro K hK
                      have F := HF.out _ hwi.1
                      go_simp
                      apply hK
                      · rfl
                      · conv => (lhs; whnf)
                      · exact hwi
                    simp only [put_lit, put_none, List.set_cons_succ, List.set_cons_zero]
                    apply Oblig.cons
                    case h =>
                      intro S w1 hwi hSi hd hcl
                      apply StepOk.intro
                      intro K hK
                      have F := HF.out _ hwi.1
                      go_simp
                      apply hK
                      · rfl
                      · conv => (lhs; whnf)
                      · exact hwi
                    simp only [put_lit, put_none, List.set_cons_succ, List.set_cons_zero]
                    apply Oblig.cons
                    case h =>
                      intro S w1 hwi hSi hd hcl
                      apply StepOk.intro
                      intro K hK
                      have F := HF.out _ hwi.1
                      go_simp
                      apply hK
                      · rfl
                      · conv => (lhs; whnf)
                      · exact hwi
                    simp only [put_lit, put_none, List.set_cons_succ, List.set_cons_zero]
                    apply Oblig.cons
                    case h =>
                      intro S w1 hwi hSi hd hcl
                      apply StepOk.intro
                      intro K hK
                      have F := HF.out _ hwi.1
                      go_simp
                      apply hK
                      · rfl
                      · conv => (lhs; whnf)
                      · exact hwi
                    simp only [put_lit, put_none, List.set_cons_succ, List.set_cons_zero]
                    apply Oblig.cons
                    case h =>
                      intro S w1 hwi hSi hd hcl
                      apply StepOk.intro
                      intro K hK
                      have F := HF.out _ hwi.1
                      go_simp
                      apply hK
                      · rfl
                      · conv => (lhs; whnf)
                      · exact hwi
                    simp only [put_lit, put_none, List.set_cons_succ, List.set_cons_zero]
                    apply Oblig.cons
                    case h =>
                      intro S w1 hwi hSi hd hcl
                      apply StepOk.intro
                      intro K hK
                      have F := HF.out _ hwi.1
                      go_simp
                      apply hK
                      · rfl
                      · conv => (lhs; whnf)
                      · exact hwi
                    simp only [put_lit, put_none, List.set_cons_succ, List.set_cons_zero]
                    apply Oblig.cons
                    case h =>
                      intro S w1 hwi hSi hd hcl
                      apply StepOk.intro
                      intro K hK
                      have F := HF.out _ hwi.1
                      have h0 := hwi.2.1 hSi
                      obtain ⟨c1, f1, z1⟩ := HCW.out _ h0
                      go_simp
                      apply hK
                      · rfl
                      · conv => (lhs; whnf)
                      · exact ⟨hwi.1.set _ _ (fun _ => rfl), fun h => by simp [upd] at h, fun _ => (h0.set q (i64 (oa))).cast (ints_set _ _ _)⟩
                    simp only [put_lit, put_none, List.set_cons_succ, List.set_cons_zero]
                    exact Oblig.nil
                  case h0 =>
                    exact ⟨HKR.out.drew, fun _ => HV.out.drew, fun h => by cases h⟩
                  case hend =>
                    intro S wx hwi hall
                    have HVn := hid (hwi.2.2 (hall 12 (by decide)))
                    have HKn := hid hwi.1
                    clear hwi hall HV HKR
                    have HV := HVn
                    have HKR := HKn
                    have F := HF.out _ HKR.out
                    obtain ⟨c1, f1, z1⟩ := HCY.out _ HV.out
                    go_wp2_with fail
                    clear F c1 f1 z1
                    apply wp_region_text (WI := fun S wx => Blk wx w6.heap.size 3 (ints (W.set q oa)) ∧ Keep (fun k => k = w6.heap.size) w7 wx) (by kernel_rfl) (by kernel_rfl)
                    case hob =>
                      apply Oblig.cons
                      case h =>
                        intro S w1 hwi hSi hd hcl
                        apply StepOk.intro
                        intro K hK
                        have F := HF.out _ hwi.2
                        obtain ⟨c1, f1, z1⟩ := HCY.out _ hwi.1
                        go_simp
                        apply hK
                        · rfl
                        · conv => (lhs; whnf)
                        · exact hwi
                      simp only [put_lit, put_none, List.set_cons_succ, List.set_cons_zero]
                      apply Oblig.cons
                      case h =>
                        intro S w1 hwi hSi hd hcl
                        apply StepOk.intro
                        intro K hK
                        have F := HF.out _ hwi.2
                        obtain ⟨c1, f1, z1⟩ := HCY.out _ hwi.1
                        go_simp
                        apply hK
                        · rfl
                        · conv => (lhs; whnf)
                        · exact hwi
                      simp only [put_lit, put_none, List.set_cons_succ, List.set_cons_zero]
                      apply Oblig.cons
                      case h =>
                        intro S w1 hwi hSi hd hcl
                        apply StepOk.intro
                        intro K hK
                        have F := HF.out _ hwi.2
                        obtain ⟨c1, f1, z1⟩ := HCY.out _ hwi.1
                        go_simp
                        apply hK
                        · rfl
                        · conv => (lhs; whnf)
                        · exact hwi
                      simp only [put_lit, put_none, List.set_cons_succ, List.set_cons_zero]
                      apply Oblig.cons
                      case h =>
                        intro S w1 hwi hSi hd hcl
                        apply StepOk.intro
                        intro K hK
                        have F := HF.out _ hwi.2
                        obtain ⟨c1, f1, z1⟩ := HCY.out _ hwi.1
                        go_simp
                        apply hK
                        · rfl
                        · conv => (lhs; whnf)
                        · exact hwi
                      simp only [put_lit, put_none, List.set_cons_succ, List.set_cons_zero]
                      apply Oblig.cons
                      case h =>
                        intro S w1 hwi hSi hd hcl
                        apply StepOk.intro
                        intro K hK
                        have F := HF.out _ hwi.2
                        obtain ⟨c1, f1, z1⟩ := HCY.out _ hwi.1
                        go_simp
                        apply hK
                        · rfl
                        · conv => (lhs; whnf)
                        · exact hwi
                      simp only [put_lit, put_none, List.set_cons_succ, List.set_cons_zero]
                      apply Oblig.cons
                      case h =>
                        intro S w1 hwi hSi hd hcl
                        apply StepOk.intro
                        intro K hK
                        have F := HF.out _ hwi.2
                        obtain ⟨c1, f1, z1⟩ := HCY.out _ hwi.1
                        go_simp
                        apply hK
                        · rfl
                        · conv => (lhs; whnf)
                        · exact hwi
                      simp only [put_lit, put_none, List.set_cons_succ, List.set_cons_zero]
                      apply Oblig.cons
                      case h =>
                        intro S w1 hwi hSi hd hcl
                        apply StepOk.intro
                        intro K hK
                        have F := HF.out _ hwi.2
                        obtain ⟨c1, f1, z1⟩ := HCY.out _ hwi.1
                        go_simp
                        apply hK
                        · rfl
                        · conv => (lhs; whnf)
                        · exact hwi
                      simp only [put_lit, put_none, List.set_cons_succ, List.set_cons_zero]
                      apply Oblig.cons
                      case h =>
                        intro S w1 hwi hSi hd hcl
                        apply StepOk.intro
                        intro K hK
                        have F := HF.out _ hwi.2
                        obtain ⟨c1, f1, z1⟩ := HCY.out _ hwi.1
                        go_simp
                        apply hK
                        · rfl
                        · conv => (lhs; whnf)
                        · exact hwi
                      simp only [put_lit, put_none, List.set_cons_succ, List.set_cons_zero]
                      apply Oblig.cons
                      case h =>
                        intro S w1 hwi hSi hd hcl
                        apply StepOk.intro
                        intro K hK
                        have F := HF.out _ hwi.2
                        obtain ⟨c1, f1, z1⟩ := HCY.out _ hwi.1
                        go_simp
                        apply hK
                        · rfl
                        · conv => (lhs; whnf)
                        · exact hwi
                      simp only [put_lit, put_none, List.set_cons_succ, List.set_cons_zero]
                      apply Oblig.cons
                      case h =>
                        intro S w1 hwi hSi hd hcl
                        apply StepOk.intro
                        intro K hK
                        have F := HF.out _ hwi.2
                        obtain ⟨c1, f1, z1⟩ := HCY.out _ hwi.1
                        go_simp
                        apply hK
                        · rfl
                        · conv => (lhs; whnf)
                        · exact hwi
                      simp only [put_lit, put_none, List.set_cons_succ, List.set_cons_zero]
                      apply Oblig.cons
                      case h =>
                        intro S w1 hwi hSi hd hcl
                        apply StepOk.intro
                        intro K hK
                        have F := HF.out _ hwi.2
                        obtain ⟨c1, f1, z1⟩ := HCY.out _ hwi.1
                        go_simp
                        apply hK
                        · rfl
                        · conv => (lhs; whnf)
                        · exact hwi
                      simp only [put_lit, put_none, List.set_cons_succ, List.set_cons_zero]
                      apply Oblig.cons
                      case h =>
                        intro S w1 hwi hSi hd hcl
                        apply StepOk.intro
                        intro K hK
                        have F := HF.out _ hwi.2
                        obtain ⟨c1, f1, z1⟩ := HCY.out _ hwi.1
                        go_simp
                        apply hK
                        · rfl
                        · conv => (lhs; whnf)
                        · exact hwi
                      simp only [put_lit, put_none, List.set_cons_succ, List.set_cons_zero]
                      apply Oblig.cons
                      case h =>
                        intro S w1 hwi hSi hd hcl
                        apply StepOk.intro
                        intro K hK
                        have F := HF.out _ hwi.2
                        obtain ⟨c1, f1, z1⟩ := HCY.out _ hwi.1
                        go_simp
                        apply hK
                        · rfl
                        · conv => (lhs; whnf)
                        · exact hwi
                      simp only [put_lit, put_none, List.set_cons_succ, List.set_cons_zero]
                      apply Oblig.cons
                      case h =>
                        intro S w1 hwi hSi hd hcl
                        apply StepOk.intro
                        intro K hK
                        have F := HF.out _ hwi.2
                        obtain ⟨c1, f1, z1⟩ := HCY.out _ hwi.1
                        go_simp
                        apply hK
                        · rfl
                        · conv => (lhs; whnf)
                        · exact hwi
                      simp only [put_lit, put_none, List.set_cons_succ, List.set_cons_zero]
                      apply Oblig.cons
                      case h =>
                        intro S w1 hwi hSi hd hcl
                        apply StepOk.intro
                        intro K hK
                        have F := HF.out _ hwi.2
                        obtain ⟨c1, f1, z1⟩ := HCY.out _ hwi.1
                        go_simp
                        apply hK
                        · rfl
                        · conv => (lhs; whnf)
                        · exact hwi
                      simp only [put_lit, put_none, List.set_cons_succ, List.set_cons_zero]
                      apply Oblig.cons
                      case h =>
                        intro S w1 hwi hSi hd hcl
                        apply StepOk.intro
                        intro K hK
                        have F := HF.out _ hwi.2
                        obtain ⟨c1, f1, z1⟩ := HCY.out _ hwi.1
                        go_simp
                        apply hK
                        · rfl
                        · conv => (lhs; whnf)
                        · exact hwi
                      simp only [put_lit, put_none, List.set_cons_succ, List.set_cons_zero]
                      apply Oblig.cons
                      case h =>
                        intro S w1 hwi hSi hd hcl
                        apply StepOk.intro
                        intro K hK
                        have F := HF.out _ hwi.2
                        obtain ⟨c1, f1, z1⟩ := HCY.out _ hwi.1
                        go_simp
                        apply hK
                        · rfl
                        · conv => (lhs; whnf)
                        · exact hwi
                      simp only [put_lit, put_none, List.set_cons_succ, List.set_cons_zero]
                      apply Oblig.cons
                      case h =>
                        intro S w1 hwi hSi hd hcl
                        apply StepOk.intro
                        intro K hK
                        have F := HF.out _ hwi.2
                        obtain ⟨c1, f1, z1⟩ := HCY.out _ hwi.1
                        go_simp
                        apply hK
                        · rfl
                        · conv => (lhs; whnf)
                        · exact hwi
                      simp only [put_lit, put_none, List.set_cons_succ, List.set_cons_zero]
                      apply Oblig.cons
                      case h =>
                        intro S w1 hwi hSi hd hcl
                        apply StepOk.intro
                        intro K hK
                        have F := HF.out _ hwi.2
                        obtain ⟨c1, f1, z1⟩ := HCY.out _ hwi.1
                        go_simp
                        apply hK
                        · rfl
                        · conv => (lhs; whnf)
                        · exact hwi
                      simp only [put_lit, put_none, List.set_cons_succ, List.set_cons_zero]
                      apply Oblig.cons
                      case h =>
                        intro S w1 hwi hSi hd hcl
                        apply StepOk.intro
                        intro K hK
                        have F := HF.out _ hwi.2
                        obtain ⟨c1, f1, z1⟩ := HCY.out _ hwi.1
                        go_simp
                        apply hK
                        · rfl
                        · conv => (lhs; whnf)
                        · exact hwi
                      simp only [put_lit, put_none, List.set_cons_succ, List.set_cons_zero]
                      apply Oblig.cons
                      case h =>
                        intro S w1 hwi hSi hd hcl
                        apply StepOk.intro
                        intro K hK
                        have F := HF.out _ hwi.2
                        obtain ⟨c1, f1, z1⟩ := HCY.out _ hwi.1
                        go_simp
                        apply hK
                        · rfl
                        · conv => (lhs; whnf)
                        · exact hwi
                      simp only [put_lit, put_none, List.set_cons_succ, List.set_cons_zero]
                      apply Oblig.cons
                      case h =>
                        intro S w1 hwi hSi hd hcl
                        apply StepOk.intro
                        intro K hK
                        have F := HF.out _ hwi.2
                        obtain ⟨c1, f1, z1⟩ := HCY.out _ hwi.1
                        go_simp
                        apply hK
                        · rfl
                        · conv => (lhs; whnf)
                        · exact hwi
                      simp only [put_lit, put_none, List.set_cons_succ, List.set_cons_zero]
                      apply Oblig.cons
                      case h =>
                        intro S w1 hwi hSi hd hcl
                        apply StepOk.intro
                        intro K hK
                        have F := HF.out _ hwi.2
                        obtain ⟨c1, f1, z1⟩ := HCY.out _ hwi.1
                        go_simp
                        apply hK
                        · rfl
                        · conv => (lhs; whnf)
                        · exact hwi
                      simp only [put_lit, put_none, List.set_cons_succ, List.set_cons_zero]
                      apply Oblig.cons
                      case h =>
                        intro S w1 hwi hSi hd hcl
                        apply StepOk.intro
                        intro K hK
                        have F := HF.out _ hwi.2
                        obtain ⟨c1, f1, z1⟩ := HCY.out _ hwi.1
                        go_simp
                        apply hK
                        · rfl
                        · conv => (lhs; whnf)
                        · exact hwi
                      simp only [put_lit, put_none, List.set_cons_succ, List.set_cons_zero]
                      apply Oblig.cons
                      case h =>
                        intro S w1 hwi hSi hd hcl
                        apply StepOk.intro
                        intro K hK
                        have F := HF.out _ hwi.2
                        obtain ⟨c1, f1, z1⟩ := HCY.out _ hwi.1
                        go_simp
                        apply hK
                        · rfl
                        · conv => (lhs; whnf)
                        · exact hwi
                      simp only [put_lit, put_none, List.set_cons_succ, List.set_cons_zero]
                      apply Oblig.cons
                      case h =>
                        intro S w1 hwi hSi hd hcl
                        apply StepOk.intro
                        intro K hK
                        have F := HF.out _ hwi.2
                        obtain ⟨c1, f1, z1⟩ := HCY.out _ hwi.1
                        go_simp
                        apply hK
                        · rfl
                        · conv => (lhs; whnf)
                        · exact hwi
                      simp only [put_lit, put_none, List.set_cons_succ, List.set_cons_zero]
                      exact Oblig.nil
                    case h0 =>
                      exact ⟨HV.out.drew, HKR.out.drew⟩
                    case hend =>
                      intro S wx hwi hall
                      have HVn := hid hwi.1
                      have HKn := hid hwi.2
                      clear hwi hall HV HKR
                      have HV := HVn
                      have HKR := HKn
                      have F := HF.out _ HKR.out
                      obtain ⟨c1, f1, z1⟩ := HCY.out _ HV.out
                      go_wp2_with fail
                      go_roundw
                      case rel => exact ⟨i + 1, by omega, by go_num, by rw [HNX.out]; exact HV.out, HKR.out⟩
                      case measure => simp [intOf]; omega
          · obtain rfl : O.length = i := by omega
            have hv := HV.out
            rw [List.take_of_length_le (Nat.le_refl _)] at hv
            have HM8 := hid (HM7.out.keep HKR.out (fun k h e => hmw k h e))
            have HKW : Hid (Keep0 w wr) := hid (keep_far HK7.out HKR.out (fun k e => by have e' : k = w6.heap.size := e; omega))
            have HIV := hid (show IntsAt wr (some ⟨w6.heap.size, 0, none⟩) (runW K O) from Or.inr ⟨_, 0, rfl, fun j hj => by rw [Nat.zero_add, hv.cell j, ints_get _ _ hj]⟩)
            clear hv HV HKR HM7
            go_wp2_with fail
            refine (mem_Words HM8.out (by rw [runW_length]; omega)).mono ?_
            rintro e w8 ⟨g8, c8, rfl, hi8, hk, _⟩
            have hsi := same_ints _ _ (runW K O) c8 K _ hi8.at_ (HIV.out.keep hk) (by rw [runW_length]; omega)
            rw [runW_length] at hsi ⊢
            have HSI := hid hsi
            have HK8 : Hid (Keep0 w w8) := hid (Keep0.step HKW.out hk)
            clear hk hi8 hsi
            go_wp2_with fail
            refine HSI.out.mono ?_
            rintro e w9 ⟨rfl, hk⟩
            have HK9 : Hid (Keep0 w w9) := hid (Keep0.step HK8.out hk)
            clear hk
            go_wp2_with fail
            go_ret
            exact ⟨rfl, HK9.out⟩
end Go.Proofs.Ytdjfeapncpcmgaa
