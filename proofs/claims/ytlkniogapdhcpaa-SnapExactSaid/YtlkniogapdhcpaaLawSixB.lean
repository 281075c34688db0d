/- breadlinelaw06: Words. -/
import Derived.Test.YtlkniogapdhcpaaLawSix
import Derived.Test.YtlkniogapdhcpaaPoolP
namespace Go.Proofs.Ytlkniogapdhcpaa
open Go.RowKit
set_option linter.unusedVariables false
set_option linter.unusedSimpArgs false
set_option maxRecDepth 100000

def I32At (w : World) (A : Option Addr) (l : List Int) : Prop := l = [] ∨ ∃ b o, A = some ⟨b, o, none⟩ ∧ ∀ i, i < l.length → w.cell? ⟨b, o + i, none⟩ = some (.int .i32 (rd l i))
theorem I32At.keep {w w' : World} {A : Option Addr} {l : List Int} (h : I32At w A l) (hk : Keep0 w w') : I32At w' A l := by
  rcases h with h | ⟨b, o, e1, h⟩
  · exact Or.inl h
  · refine Or.inr ⟨b, o, e1, fun i hi => ?_⟩
    rw [cell_old hk (World.block_lt_of_cell? _ _ (h i hi)) (fun x => x)]
    exact h i hi
theorem I32At.cell {w : World} {A : Option Addr} {l : List Int} (h : I32At w A l) (hl : 0 < l.length) : ∃ b o, A = some ⟨b, o, none⟩ ∧ (∀ i, i < l.length → w.cell? ⟨b, o + i, none⟩ = some (.int .i32 (rd l i))) := by
  rcases h with rfl | h
  · simp at hl
  · exact h
theorem keep_far6 {S : Nat → Prop} {w w1 w2 : World} (h : Keep0 w w1) (hk : Keep S w1 w2) (hS : ∀ k, S k → w.heap.size ≤ k) : Keep0 w w2 :=
  (h.trans (S := fun _ => False) hk (fun k hkk hs => by have := hS k hs; omega))
theorem rd_rep6 (n i : Nat) : rd (List.replicate n 0) i = 0 := by
  unfold rd
  rw [List.getD_eq_getElem?_getD, List.getElem?_replicate]
  split <;> rfl
theorem rd_over (l : List Int) (i : Nat) (h : l.length ≤ i) : rd l i = 0 := by
  unfold rd
  first | exact List.getD_eq_default _ _ h | simp [List.getElem?_eq_none h]
theorem tmod_bd (a g : Int) (hg : 1 ≤ g) : -(g - 1) ≤ a.tmod g ∧ a.tmod g ≤ g - 1 := by
  have h1 := Int.tmod_lt_of_pos a (show 0 < g by omega)
  have h2 := Int.tmod_lt_of_pos (-a) (show 0 < g by omega)
  rw [Int.neg_tmod] at h2
  omega
/-- the words of a counter, i stripes laid -/
def words6 (b g : Nat) (W : List Int) (V U : List Int) : Nat → List Int
  | 0 => W
  | i + 1 => (words6 b g W V U i).set (b + 4 + i) (word6 (rd V i) ((rd U i).tmod g))
def zero6 (b s : Nat) (gl l : Int) : List Int := ((List.replicate (b + 4 + s + 3) 0).set b gl).set (b + 3) l
theorem words6_length (b g : Nat) (W V U : List Int) (i : Nat) : (words6 b g W V U i).length = W.length := by
  induction i with
  | zero => rfl
  | succ i ih => simp [words6, ih]
theorem zero6_length (b s : Nat) (gl l : Int) : (zero6 b s gl l).length = b + 4 + s + 3 := by simp [zero6]
theorem Blk.ints {w : World} {g : Nat} {W : List Int} (h : Blk w g 3 (ints W)) : Ints w g W := by
  unfold Blk at h
  exact ⟨_, h, by simp [Go.Proofs.Ytlkniogapdhcpaa.ints], by rw [List.toList_toArray]; exact List.take_of_length_le (by simp [Go.Proofs.Ytlkniogapdhcpaa.ints])⟩

set_option maxHeartbeats 2000000 in
theorem law6_Words (ba sr ga gl li : Int) (VA : Option Addr) (V : List Int) (vc : Nat) (UA : Option Addr) (U : List Int) (uc : Nat) (w : World) (b s g l : Nat) (h0 : 0 ≤ ba ∧ ba ≤ 255) (h1 : 0 ≤ sr ∧ sr ≤ 255) (h2 : 0 ≤ ga ∧ ga ≤ 65535) (h4 : 0 ≤ li ∧ li ≤ 255) (h3 : -2147483648 ≤ gl ∧ gl ≤ 2147483647)
    (hV : U32At w VA V) (hU : I32At w UA U) (hv : V.length ≤ 20) (hu : U.length ≤ 20) (hvb : ∀ i, i < V.length → 0 ≤ rd V i ∧ rd V i ≤ 4294967295) (hub : ∀ i, i < U.length → -2147483648 ≤ rd U i ∧ rd U i ≤ 2147483647)
    (hb : (b : Int) = ba % 8) (hs : (s : Int) = sz4 sr) (hg : (g : Int) = ga % 40 + 1) (hl : (l : Int) = min (sz4 li) (sz4 sr)) :
    Calls Try.prog 12 #[.agg #[.int .u8 ba, .int .u8 sr, .int .u16 ga, .int .i32 gl, .int .u8 li, .slice VA V.length vc, .slice UA U.length uc]] w fun e w' => ∃ gb, e = .returned (.slice (some ⟨gb, 0, none⟩) (b + 4 + s + 3) (b + 4 + s + 3)) ∧ Blk w' gb 3 (ints (words6 b g (zero6 b s gl l) V U s)) ∧ Keep0 w w' ∧ w.heap.size ≤ gb := by
  have HV := hid hV
  have HU := hid hU
  have HS := hid (fun w' => law6_Size ba sr ga gl li VA V.length vc UA U.length uc w' h0 h1 h2 h4)
  rw [← hl, ← hb, ← hs, ← hg] at HS
  have hsb := sz4_bd sr
  have hbb : b ≤ 7 := by omega
  have hss : 1 ≤ s ∧ s ≤ 8 := by omega
  have hgg : 1 ≤ g ∧ g ≤ 40 := by omega
  have HK0 : Hid (Keep0 w (w.alloc (.cells #[.int .u8 ba, .int .u8 sr, .int .u16 ga, .int .i32 gl, .int .u8 li, .slice VA V.length vc, .slice UA U.length uc] 26))) := hid ((Keep.refl _ _).alloc _)
  have HB0 : Hid (Blk (w.alloc (.cells #[.int .u8 ba, .int .u8 sr, .int .u16 ga, .int .i32 gl, .int .u8 li, .slice VA V.length vc, .slice UA U.length uc] 26)) w.heap.size 26 [.int .u8 ba, .int .u8 sr, .int .u16 ga, .int .i32 gl, .int .u8 li, .slice VA V.length vc, .slice UA U.length uc]) := hid (Blk.made rfl rfl)
  have qB0 := HB0.out.k7
  clear hV hU hb hs hg hl h0 h1 h2 h4
  go_enter Try.func12, Try.ntmps12
  go_wp2_with fail
  refine (HS.out _).mono ?_
  rintro e w1 ⟨rfl, hk⟩
  have HK1 : Hid (Keep0 w w1) := hid (HK0.out.trans hk (fun _ _ h => h))
  have HB1 := hid (hk.blk HB0.out (fun h => h))
  have qB1 := HB1.out.k7
  clear hk HK0 HB0 qB0
  obtain ⟨i0, hi, hz0, hz1, hz2⟩ := info_parts info_int
  have hmk := fun w => run_make (P := Try.prog) w 33 3 i0 (.int .i64 0) Try.underlying33 hi hz0 .i64 .i64 ((b + 4 + s + 3 : Nat) : Int) ((b + 4 + s + 3 : Nat) : Int) (by omega) (by omega) (by rw [hz2]; omega) (by omega)
  simp only [hz1, Nat.mul_one, made_ints, Int.toNat_natCast] at hmk
  rw [show ((b + 4 + s + 3 : Nat) : Int) = (b : Int) + 4 + s + 3 from by omega] at hmk
  clear hi hz0 hz1 hz2
  obtain ⟨wz, hmz, hbz, hkz⟩ : ∃ wz, (Instr.makeSlice 33 (i64 ((b : Int) + 4 + s + 3)) (i64 ((b : Int) + 4 + s + 3))).run Try.prog w1 = .ok (.slice (some ⟨w1.heap.size, 0, none⟩) (b + 4 + s + 3) (b + 4 + s + 3)) wz ∧ Blk wz w1.heap.size 3 (ints (List.replicate (b + 4 + s + 3) 0)) ∧ Keep0 w1 wz := ⟨_, hmk w1, Blk.made rfl rfl, (Keep.refl _ _).alloc _⟩
  have hge : w.heap.size ≤ w1.heap.size := HK1.out.size
  generalize hgb : w1.heap.size = gb at *
  have c1 := (hbz.cell b).trans ((ints_get _ b (by simp; omega)).trans (by rw [rd_rep6]))
  have f1 := hbz.frozen
  have z1 := hbz.lt
  have HB2 := hid (hkz.blk HB1.out (fun h => h))
  have qB2 := HB2.out.k7
  have hne : w.heap.size ≠ gb := HB2.out.ne hbz (by decide)
  have hne2 : gb ≠ w.heap.size := fun e => hne e.symm
  have hg3 : (wz.setCell ⟨gb, b, none⟩ (i64 gl)).cell? ⟨gb, b + 3, none⟩ = some (i64 0) := ((hbz.set b (i64 gl)).cell (b + 3)).trans (by rw [ints_set, ints_get _ _ (by simp; omega), rd_set, if_neg (by omega), rd_rep6])
  have hg4 := (hbz.set b (i64 gl)).frozen
  have HBZ := hid hbz
  have HKZ := hid hkz
  clear hbz hkz hmk qB1
  go_wp2_with fail
  have hb2 := (HBZ.out.set b (i64 gl)).set (b + 3) (i64 l)
  rw [ints_set, ints_set] at hb2
  have hk2 := ((HKZ.out.mono (T := fun k => k = gb) (fun _ h => h.elim)).set ⟨gb, b, none⟩ (i64 gl) (fun _ => rfl)).set ⟨gb, b + 3, none⟩ (i64 l) (fun _ => rfl)
  have hk02 : Keep0 w ((wz.setCell ⟨gb, b, none⟩ (i64 gl)).setCell ⟨gb, b + 3, none⟩ (i64 l)) := keep_far6 HK1.out hk2 (fun k e => by have e' : k = gb := e; omega)
  have hbc := hk2.blk HB1.out (fun e => hne e)
  generalize (wz.setCell ⟨gb, b, none⟩ (i64 gl)).setCell ⟨gb, b + 3, none⟩ (i64 l) = w2 at *
  have HBA := hid (show Blk w2 gb 3 (ints (zero6 b s gl l)) from hb2)
  have HBC := hid hbc
  have HK2 := hid hk02
  have hzl := zero6_length b s gl l
  obtain ⟨Z, hZ⟩ : ∃ Z, Z = zero6 b s gl l := ⟨_, rfl⟩
  rw [← hZ] at HBA hzl
  have HZ := hid hZ
  clear hZ
  clear hb2 hk2 hk02 hbc HBZ HKZ HB1 HK1 hg3 hg4 c1 f1 z1 hmz HB2 qB2
  go_loopw [8] (fun v8 wr => ∃ i : Nat, i ≤ s ∧ v8 = .int .i64 i ∧ Blk wr gb 3 (ints (words6 b g Z V U i)) ∧ Keep (fun k => k = gb) w2 wr) (fun v _ => s - (intOf v).toNat)
  case atStart => exact ⟨0, Nat.zero_le _, rfl, HBA.out, Keep.refl _ _⟩
  case round =>
    obtain ⟨i, hi, rfl, hbr, hkr⟩ := hrel
    have HKR := hid hkr
    have HBR := hid hbr
    have hk0r : Keep0 w wr := keep_far6 HK2.out hkr (fun k e => by have e' : k = gb := e; omega)
    have HK0R := hid hk0r
    have hVR := HV.out.keep hk0r
    have hUR := HU.out.keep hk0r
    have hbcr := hkr.blk HBC.out (fun e => hne e)
    have qc := hbcr.k7
    by_cases hlt : i < s
    · have hwl := words6_length b g Z V U i
      have c1 := (hbr.cell (b + 4 + i)).trans (ints_get _ (b + 4 + i) (by omega))
      have f1 := hbr.frozen
      have z1 := hbr.lt
      clear hbr hkr hk0r hbcr
      by_cases hv1 : i < V.length
      · by_cases hu1 : i < U.length
        · obtain ⟨vb, vo, rfl, hcv⟩ := hVR.cell (by omega)
          have cv := hcv i (by omega)
          have zv := World.block_lt_of_cell? _ _ cv
          simp only at zv
          have bv := hvb i (by omega)
          clear hcv
          obtain ⟨ub, uo, rfl, hcu⟩ := hUR.cell (by omega)
          have cu := hcu i (by omega)
          have zu := World.block_lt_of_cell? _ _ cu
          simp only at zu
          have bu := hub i (by omega)
          clear hcu
          have HNX : Hid (words6 b g Z V U (i + 1) = (words6 b g Z V U i).set (b + 4 + i) (word6 (rd V i) ((rd U i).tmod g))) := hid rfl
          generalize rd V i = ver at *
          have bm := tmod_bd (rd U i) (g : Int) (by omega)
          generalize rd U i = val at *
          have yv : IntKind.i64.wrap (val.tmod g) = val.tmod g := IntWalk.i64_in _ (by omega)
          generalize words6 b g Z V U i = X at *
          go_wp2_with fail
          refine (ref1_Word ver (val.tmod g) _ (by omega) (by omega)).mono ?_
          rintro e w3 ⟨rfl, rfl⟩
          go_wp2_with fail
          go_roundw
          case rel => exact ⟨i + 1, by omega, by go_num, by rw [HNX.out, ← ints_set]; exact HBR.out.set _ _, HKR.out.set _ _ (fun _ => rfl)⟩
          case measure => simp [intOf]; omega
        · obtain ⟨vb, vo, rfl, hcv⟩ := hVR.cell (by omega)
          have cv := hcv i (by omega)
          have zv := World.block_lt_of_cell? _ _ cv
          simp only at zv
          have bv := hvb i (by omega)
          clear hcv
          have eu : rd U i = 0 := rd_over U i (by omega)
          have HNX : Hid (words6 b g Z V U (i + 1) = (words6 b g Z V U i).set (b + 4 + i) (word6 (rd V i) ((rd U i).tmod g))) := hid rfl
          generalize rd V i = ver at *
          rw [eu, show (0 : Int).tmod g = 0 from by simp] at HNX
          clear eu
          generalize words6 b g Z V U i = X at *
          go_wp2_with fail
          refine (ref1_Word ver 0 _ (by omega) (by omega)).mono ?_
          rintro e w3 ⟨rfl, rfl⟩
          go_wp2_with fail
          go_roundw
          case rel => exact ⟨i + 1, by omega, by go_num, by rw [HNX.out, ← ints_set]; exact HBR.out.set _ _, HKR.out.set _ _ (fun _ => rfl)⟩
          case measure => simp [intOf]; omega
      · by_cases hu1 : i < U.length
        · have ev : rd V i = 0 := rd_over V i (by omega)
          obtain ⟨ub, uo, rfl, hcu⟩ := hUR.cell (by omega)
          have cu := hcu i (by omega)
          have zu := World.block_lt_of_cell? _ _ cu
          simp only at zu
          have bu := hub i (by omega)
          clear hcu
          have HNX : Hid (words6 b g Z V U (i + 1) = (words6 b g Z V U i).set (b + 4 + i) (word6 (rd V i) ((rd U i).tmod g))) := hid rfl
          rw [ev] at HNX
          clear ev
          have bm := tmod_bd (rd U i) (g : Int) (by omega)
          generalize rd U i = val at *
          have yv : IntKind.i64.wrap (val.tmod g) = val.tmod g := IntWalk.i64_in _ (by omega)
          generalize words6 b g Z V U i = X at *
          go_wp2_with fail
          refine (ref1_Word 0 (val.tmod g) _ (by omega) (by omega)).mono ?_
          rintro e w3 ⟨rfl, rfl⟩
          go_wp2_with fail
          go_roundw
          case rel => exact ⟨i + 1, by omega, by go_num, by rw [HNX.out, ← ints_set]; exact HBR.out.set _ _, HKR.out.set _ _ (fun _ => rfl)⟩
          case measure => simp [intOf]; omega
        · have ev : rd V i = 0 := rd_over V i (by omega)
          have eu : rd U i = 0 := rd_over U i (by omega)
          have HNX : Hid (words6 b g Z V U (i + 1) = (words6 b g Z V U i).set (b + 4 + i) (word6 (rd V i) ((rd U i).tmod g))) := hid rfl
          rw [ev] at HNX
          clear ev
          rw [eu, show (0 : Int).tmod g = 0 from by simp] at HNX
          clear eu
          generalize words6 b g Z V U i = X at *
          go_wp2_with fail
          refine (ref1_Word 0 0 _ (by omega) (by omega)).mono ?_
          rintro e w3 ⟨rfl, rfl⟩
          go_wp2_with fail
          go_roundw
          case rel => exact ⟨i + 1, by omega, by go_num, by rw [HNX.out, ← ints_set]; exact HBR.out.set _ _, HKR.out.set _ _ (fun _ => rfl)⟩
          case measure => simp [intOf]; omega
    · obtain rfl : i = s := by omega
      clear hbr hkr hk0r hbcr
      go_wp2_with fail
      go_ret
      exact ⟨gb, rfl, by rw [← HZ.out]; exact HBR.out, HK0R.out, by omega⟩
end Go.Proofs.Ytlkniogapdhcpaa
