/- Contracts and plain laws for UsageWay, part 14: what the walk of the law leans on. -/
import Derived.Deep.Grids
import Derived.Test.YthaceckccobgeaaGreatZUsageWay5
import Derived.Test.YthaceckccobgeaaGreatZUsageWay8
import Derived.Test.YthaceckccobgeaaGreatZUsageWay9
import Derived.Test.YthaceckccobgeaaGreatZUsageWay10
import Derived.Test.YthaceckccobgeaaGreatZUsageWay13
namespace Go.Proofs.YthaceckccobgeaaGreat
open Go.ChangeShapes Go.WideShapes Go.ChangeAt Go.RowKit Go.Deep
set_option linter.unusedVariables false
set_option linter.unusedSimpArgs false
set_option maxRecDepth 100000
def BsAt (w : World) (A : Option Addr) (n : Nat) (f : Nat → Bool) : Prop := n = 0 ∨ ∃ b o, A = some ⟨b, o, none⟩ ∧ ∀ i, i < n → w.cell? ⟨b, o + i, none⟩ = some (.bool (f i))
theorem BsAt.keep {w w' : World} {A : Option Addr} {n : Nat} {f : Nat → Bool} (h : BsAt w A n f) (hk : Keep0 w w') : BsAt w' A n f := by
 rcases h with h | ⟨b, o, e1, h⟩
 · exact Or.inl h
 · refine Or.inr ⟨b, o, e1, fun i hi => ?_⟩
   rw [cell_old hk (World.block_lt_of_cell? _ _ (h i hi)) (fun x => x)]
   exact h i hi
theorem BsAt.cell {w : World} {A : Option Addr} {n : Nat} {f : Nat → Bool} (h : BsAt w A n f) (hl : 0 < n) : ∃ b o, A = some ⟨b, o, none⟩ ∧ (∀ i, i < n → w.cell? ⟨b, o + i, none⟩ = some (.bool (f i))) := by
 rcases h with rfl | h
 · omega
 · exact h
end Go.Proofs.YthaceckccobgeaaGreat

namespace Go.Proofs.YthaceckccobgeaaGreat
open Go.RowKit
set_option linter.unusedVariables false
set_option linter.unusedSimpArgs false
set_option maxRecDepth 100000
def busyN (W : List Int) (q : Nat) (f : Nat → Bool) : Nat → List Int
 | 0 => W
 | n + 1 => if f n = true then (busyN W q f n).set (q + 2 * n) 4294967297 else busyN W q f n
theorem busyN_len (W : List Int) (q : Nat) (f : Nat → Bool) : ∀ n, (busyN W q f n).length = W.length
 | 0 => rfl
 | n + 1 => by
  rw [busyN]
  split
  · rw [List.length_set, busyN_len W q f n]
  · exact busyN_len W q f n
def avaN (W : List Int) (e : Nat) (V : List Int) : Nat → List Int
 | 0 => W
 | n + 1 => (avaN W e V n).set (n * e + 1) (rd V n)
theorem avaN_len (W : List Int) (e : Nat) (V : List Int) : ∀ n, (avaN W e V n).length = W.length
 | 0 => rfl
 | n + 1 => by rw [avaN, List.length_set, avaN_len W e V n]
def words12 (s K : Nat) (P L : List Int) (nb : Nat) (f : Nat → Bool) (V : List Int) : List Int :=
 avaN (busyN (freshW (s : Int) (K : Int) P.length L) (P.length * (6 + 2 * s)) f (min nb K)) (6 + 2 * s) V (min V.length P.length)
theorem words12_len (s K : Nat) (P L : List Int) (nb : Nat) (f : Nat → Bool) (V : List Int) : (words12 s K P L nb f V).length = P.length * (6 + 2 * s) + 2 * K := by
 unfold words12
 rw [avaN_len, busyN_len, fresh14_len]
set_option maxHeartbeats 2000000 in
theorem law12_Of (t g lm r : Int) (s K : Nat) (P L : List Int) (pb po pc lb lo lc : Nat) (lf : Nat) (nn th : Int) (BA : Option Addr) (nb bc : Nat) (VA : Option Addr) (V : List Int) (vc : Nat) (KA : Option Addr) (nk kc : Nat) (w : World) (hp : P.length ≤ 1000) (ho : ParR P) (h0 : 0 < P.length) (hlf : lf ≤ 255) (hnn : 0 ≤ nn ∧ nn ≤ 4294967295) (hth : 0 ≤ th ∧ th ≤ 65535) (hP : ∀ i, i < P.length → w.cell? ⟨pb, po + i, none⟩ = some (i64 (rd P i))) :
 Calls Tryz.prog 10 #[.agg #[i64 t, i64 (s : Int), i64 g, i64 lm, i64 r, i64 (K : Int), .slice (some ⟨pb, po, none⟩) P.length pc, .slice (some ⟨lb, lo, none⟩) L.length lc, .int .u8 (lf : Int), .int .u32 nn, .int .u16 th, .slice BA nb bc, .slice VA V.length vc, .slice KA nk kc]] w (Ret (.tuple #[i64 (leafN P lf : Nat), i64 (nn % 1048576 + 1), i64 (th % 1001)]) w) := by
 have hpz : pb < w.heap.size := by have h := World.block_lt_of_cell? _ _ (hP 0 h0); simpa using h
 have HLF := hid (fun (w' : World) (hk : Keep0 w w') => law12_Leaf t (s : Int) g lm r (K : Int) P pb po pc (some ⟨lb, lo, none⟩) L.length lc lf w' hp ho h0 (fun i hi => (cell_old hk hpz (fun h => h) _).trans (hP i hi)))
 have y0 : IntKind.i64.wrap (lf : Int) = (lf : Int) := IntWalk.i64_in _ (by omega)
 have y4 : IntKind.i64.wrap nn = nn := IntWalk.i64_in _ (by omega)
 have y5 : IntKind.i64.wrap th = th := IntWalk.i64_in _ (by omega)
 have y1 : nn.tmod 1048576 = nn % 1048576 := Int.tmod_eq_emod_of_nonneg hnn.1
 have y2 : th.tmod 1001 = th % 1001 := Int.tmod_eq_emod_of_nonneg hth.1
 have y3 : IntKind.i64.wrap (nn % 1048576 + 1) = nn % 1048576 + 1 := IntWalk.i64_in _ (by omega)
 generalize leafN P lf = lv at *
 clear hP ho
 go_enter Tryz.func10, Tryz.ntmps10
 have HB := hid (show Blk (w.alloc (.cells #[i64 t, i64 (s : Int), i64 g, i64 lm, i64 r, i64 (K : Int), .slice (some ⟨pb, po, none⟩) P.length pc, .slice (some ⟨lb, lo, none⟩) L.length lc, .int .u8 (lf : Int), .int .u32 nn, .int .u16 th, .slice BA nb bc, .slice VA V.length vc, .slice KA nk kc] 31)) w.heap.size 31 [i64 t, i64 (s : Int), i64 g, i64 lm, i64 r, i64 (K : Int), .slice (some ⟨pb, po, none⟩) P.length pc, .slice (some ⟨lb, lo, none⟩) L.length lc, .int .u8 (lf : Int), .int .u32 nn, .int .u16 th, .slice BA nb bc, .slice VA V.length vc, .slice KA nk kc] from Blk.made rfl rfl)
 have HK0 := hid (show Keep0 w (w.alloc (.cells #[i64 t, i64 (s : Int), i64 g, i64 lm, i64 r, i64 (K : Int), .slice (some ⟨pb, po, none⟩) P.length pc, .slice (some ⟨lb, lo, none⟩) L.length lc, .int .u8 (lf : Int), .int .u32 nn, .int .u16 th, .slice BA nb bc, .slice VA V.length vc, .slice KA nk kc] 31)) from (Keep.refl _ _).alloc _)
 go_upto_region 1 with fail
 generalize w.alloc (.cells #[i64 t, i64 (s : Int), i64 g, i64 lm, i64 r, i64 (K : Int), .slice (some ⟨pb, po, none⟩) P.length pc, .slice (some ⟨lb, lo, none⟩) L.length lc, .int .u8 (lf : Int), .int .u32 nn, .int .u16 th, .slice BA nb bc, .slice VA V.length vc, .slice KA nk kc] 31) = w0 at *
 apply wp_region_text (WI := fun S wx => Keep0 w0 wx) (by kernel_rfl) (by kernel_rfl)
 case hob =>
  iterate 5
   apply Oblig.cons
   case h =>
    intro S w1 hwi hSi hd hcl
    apply StepOk.intro
    intro K hK
    have qb := (hwi.blk HB.out (fun h => h)).k14
    go_simp
    apply hK
    · rfl
    · conv => (lhs; whnf)
    · exact hwi
   simp only [put_lit, put_none]
   try dsimp only [List.set_cons_succ, List.set_cons_zero]
  apply Oblig.cons
  case h =>
   intro S w1 hwi hSi hd hcl
   apply StepOk.intro
   intro K hK
   have qb := (hwi.blk HB.out (fun h => h)).k14
   go_simp
   refine (HLF.out _ (Keep0.step HK0.out hwi)).mono ?_
   rintro e w2 ⟨rfl, hk⟩
   apply hK
   · rfl
   · conv => (lhs; whnf)
   · exact Keep0.step hwi hk
  simp only [put_lit, put_none]
  try dsimp only [List.set_cons_succ, List.set_cons_zero]
  iterate 12
   apply Oblig.cons
   case h =>
    intro S w1 hwi hSi hd hcl
    apply StepOk.intro
    intro K hK
    have qb := (hwi.blk HB.out (fun h => h)).k14
    go_simp
    apply hK
    · rfl
    · conv => (lhs; whnf)
    · exact hwi
   simp only [put_lit, put_none]
   try dsimp only [List.set_cons_succ, List.set_cons_zero]
  exact Oblig.nil
 case h0 =>
  exact (Keep.refl _ _).drew
 case hend =>
  intro S wx hwi hall
  have HKX := hid hwi
  clear hwi hall
  go_wp2_with fail
  go_ret3
  exact ⟨rfl, Keep0.step HK0.out HKX.out⟩
def good12 (t s0 g lm r k0 : Int) (P L : List Int) (nb nv nk : Nat) : Bool := goodB t s0 g lm r k0 P L && decide (nb ≤ 30) && decide (nv ≤ 30) && decide (nk ≤ 40)
set_option maxHeartbeats 2000000 in
theorem law12_Good (t s0 g lm r k0 : Int) (PA : Option Addr) (P : List Int) (pc : Nat) (LA : Option Addr) (L : List Int) (lc : Nat) (lf nn th : Int) (BA : Option Addr) (nb bc : Nat) (VA : Option Addr) (nv vc : Nat) (KA : Option Addr) (nk kc : Nat) (w : World) (hP : IntsAt w PA P) (hL : IntsAt w LA L) (h1 : P.length ≤ 9223372036854775807) (h2 : L.length ≤ 9223372036854775807) :
 Calls Tryz.prog 8 #[.agg #[i64 t, i64 s0, i64 g, i64 lm, i64 r, i64 k0, .slice PA P.length pc, .slice LA L.length lc, .int .u8 lf, .int .u32 nn, .int .u16 th, .slice BA nb bc, .slice VA nv vc, .slice KA nk kc]] w (Ret (.bool (good12 t s0 g lm r k0 P L nb nv nk)) w) := by
 have HGG := hid (show good12 t s0 g lm r k0 P L nb nv nk = (goodB t s0 g lm r k0 P L && decide (nb ≤ 30) && decide (nv ≤ 30) && decide (nk ≤ 40)) from rfl)
 have HG0 := hid (show goodB t s0 g lm r k0 P L = (!greatB P.length L.length && rightB t s0 g lm r k0 P L) from rfl)
 generalize good12 t s0 g lm r k0 P L nb nv nk = gd at *
 generalize goodB t s0 g lm r k0 P L = gb at *
 have hgl : greatB P.length L.length = false → P.length ≤ 100 ∧ L.length ≤ 100 := fun h => by simp [greatB] at h; omega
 have HGR := hid (fun w' => law_Great t s0 g lm r k0 PA P.length pc LA L.length lc w' h1 h2)
 have HRI := hid (fun (w' : World) (hk : Keep0 w w') (hb : P.length ≤ 100 ∧ L.length ≤ 100) => ref_Right_all14 t s0 g lm r k0 PA P pc LA L lc w' (hP.keep hk) (hL.keep hk) (by omega) (by omega))
 generalize greatB P.length L.length = gr at *
 generalize rightB t s0 g lm r k0 P L = ri at *
 clear hP hL
 go_enter Tryz.func8, Tryz.ntmps8
 have HB := hid (show Blk (w.alloc (.cells #[i64 t, i64 s0, i64 g, i64 lm, i64 r, i64 k0, .slice PA P.length pc, .slice LA L.length lc, .int .u8 lf, .int .u32 nn, .int .u16 th, .slice BA nb bc, .slice VA nv vc, .slice KA nk kc] 31)) w.heap.size 31 [i64 t, i64 s0, i64 g, i64 lm, i64 r, i64 k0, .slice PA P.length pc, .slice LA L.length lc, .int .u8 lf, .int .u32 nn, .int .u16 th, .slice BA nb bc, .slice VA nv vc, .slice KA nk kc] from Blk.made rfl rfl)
 have HK0 := hid (show Keep0 w (w.alloc (.cells #[i64 t, i64 s0, i64 g, i64 lm, i64 r, i64 k0, .slice PA P.length pc, .slice LA L.length lc, .int .u8 lf, .int .u32 nn, .int .u16 th, .slice BA nb bc, .slice VA nv vc, .slice KA nk kc] 31)) from (Keep.refl _ _).alloc _)
 go_wp2_with fail
 refine (HGR.out _).mono ?_
 rintro e w1 ⟨rfl, hk⟩
 have HK1 := hid (Keep0.step HK0.out hk)
 have HB1 := hid (hk.blk HB.out (fun h => h))
 have qb := HB1.out.k14
 clear hk HB HGR HK0
 cases gr with
 | true =>
  obtain rfl : gb = false := HG0.out
  obtain rfl : gd = false := HGG.out
  go_wp2_with fail
  go_ret
  exact ⟨rfl, HK1.out⟩
 | false =>
  have hb := hgl rfl
  have HR1 := hid (HRI.out w1 HK1.out hb)
  go_wp2_with fail
  refine HR1.out.mono ?_
  rintro e w2 ⟨rfl, hk⟩
  have HK2 := hid (Keep0.step HK1.out hk)
  have qb2 := (hk.blk HB1.out (fun h => h)).k14
  clear hk qb HK1 HB1 HR1 HRI
  cases ri with
  | false =>
   obtain rfl : gb = false := HG0.out
   obtain rfl : gd = false := HGG.out
   go_wp2_with fail
   go_ret
   exact ⟨rfl, HK2.out⟩
  | true =>
   obtain rfl : gb = true := HG0.out
   clear HG0
   by_cases c1 : nb ≤ 30
   · by_cases c2 : nv ≤ 30
     · by_cases c3 : nk ≤ 40
       · obtain rfl : gd = true := HGG.out.trans (by simp [c1, c2, c3])
         have g1 : decide ((nb : Int) ≤ 30) = true := decide_eq_true (by omega)
         have g2 : decide ((nv : Int) ≤ 30) = true := decide_eq_true (by omega)
         have g3 : decide ((nk : Int) ≤ 40) = true := decide_eq_true (by omega)
         clear c1 c2 c3
         go_wp2_with fail
         go_ret
         exact ⟨rfl, HK2.out⟩
       · obtain rfl : gd = false := HGG.out.trans (by simp [c3])
         have g1 : decide ((nb : Int) ≤ 30) = true := decide_eq_true (by omega)
         have g2 : decide ((nv : Int) ≤ 30) = true := decide_eq_true (by omega)
         have g3 : decide ((nk : Int) ≤ 40) = false := decide_eq_false (by omega)
         clear c1 c2 c3
         go_wp2_with fail
         go_ret
         exact ⟨rfl, HK2.out⟩
     · obtain rfl : gd = false := HGG.out.trans (by simp [c2])
       have g1 : decide ((nb : Int) ≤ 30) = true := decide_eq_true (by omega)
       have g2 : decide ((nv : Int) ≤ 30) = false := decide_eq_false (by omega)
       clear c1 c2
       go_wp2_with fail
       go_ret
       exact ⟨rfl, HK2.out⟩
   · obtain rfl : gd = false := HGG.out.trans (by simp [c1])
     have g1 : decide ((nb : Int) ≤ 30) = false := decide_eq_false (by omega)
     clear c1
     go_wp2_with fail
     go_ret
     exact ⟨rfl, HK2.out⟩
theorem St.wordsK {w0 w : World} {l : List Ass} {B m : Nat} {W : List Int} {L : List Acc} (h : St w0 (refO B m W L :: l) w) (h0 : 0 < W.length) :
 ∃ wb c lv, Blk w m 42 [.slice (some ⟨wb, 0, none⟩) W.length c, lv] ∧ (W.length ≤ c ∧ c ≤ 9223372036854775807) ∧ St w0 (intsK wb c W :: l) w := by
 obtain ⟨h1, U, ⟨R, V, ⟨A, c, lv, hm, e⟩, hv, hd, hU⟩, hz⟩ := h
 rcases hm.words.2 with ⟨e1, e2⟩ | ⟨g, cap, cur, e1, h2, h3, h4, h5, h6, h7⟩
 · omega
 · cases e1
   have hg : R g := (e g).2 (Or.inr (Or.inl rfl))
   refine ⟨g, c, lv, hm.mem, ⟨h4, by unfold maxLen at h5; omega⟩, h1, fun k => k = g ∨ V k, ⟨fun k => k = g, V, ⟨⟨cur, h3, by omega, h4, h5, by rw [Nat.mul_one] at h7; exact h7⟩, fun _ => Iff.rfl⟩, hv, fun k hk => by subst hk; exact hd k hg, fun _ => Iff.rfl⟩, ?_⟩
   rintro k (rfl | hk)
   · exact hz k ((hU k).2 (Or.inl hg))
   · exact hz k ((hU k).2 (Or.inr hk))
set_option maxHeartbeats 4000000 in
theorem law12_Words (t g lm r : Int) (s K : Nat) (P L : List Int) (pb po pc lb lo lc : Nat) (lf : Nat) (nn th : Int) (BA : Option Addr) (nb bc : Nat) (VA : Option Addr) (V : List Int) (vc : Nat) (KA : Option Addr) (nk kc : Nat) (f : Nat → Bool) (w : World) (hs : 1 ≤ s ∧ s ≤ 8) (hK : 1 ≤ K ∧ K ≤ 16) (hp : 1 ≤ P.length ∧ P.length ≤ 12) (hlen : L.length = P.length) (hL : ∀ i, i < L.length → w.cell? ⟨lb, lo + i, none⟩ = some (i64 (rd L i)))
 (hB : BsAt w BA nb f) (hV : U32At w VA V) (hvb : ∀ i, i < V.length → 0 ≤ rd V i ∧ rd V i ≤ 4294967295) (hn1 : nb ≤ 30) (hn2 : V.length ≤ 30) :
 Calls Tryz.prog 41 #[.agg #[i64 t, i64 (s : Int), i64 g, i64 lm, i64 r, i64 (K : Int), .slice (some ⟨pb, po, none⟩) P.length pc, .slice (some ⟨lb, lo, none⟩) L.length lc, .int .u8 (lf : Int), .int .u32 nn, .int .u16 th, .slice BA nb bc, .slice VA V.length vc, .slice KA nk kc]] w fun e w' => ∃ x : Nat × Nat, (e = .returned (.slice (some ⟨x.1, 0, none⟩) (P.length * (6 + 2 * s) + 2 * K) x.2) ∧ (P.length * (6 + 2 * s) + 2 * K ≤ x.2 ∧ x.2 ≤ 9223372036854775807)) ∧ Nw (intsK x.1 x.2 (words12 s K P L nb f V)) w w' := by
 have hlz : lb < w.heap.size := by have h := World.block_lt_of_cell? _ _ (hL 0 (by omega)); simpa using h
 have HL := hid hL
 have HLEN := hid hlen
 have HB := hid hB
 have HV := hid hV
 have HVB := hid hvb
 have hmq : P.length * (6 + 2 * s) ≤ 264 := (by have h9 : P.length * (6 + 2 * s) ≤ 12 * 22 := Nat.mul_le_mul hp.2 (by omega); omega)
 have hfl := fresh14_len s K P.length L
 obtain ⟨q, hq⟩ : ∃ q, q = P.length * (6 + 2 * s) := ⟨_, rfl⟩
 have HTK := hid (fun (i : Nat) (w' : World) (hi : i < 1000) => show Calls Tryz.prog 47 #[.agg #[i64 t, i64 (s : Int), i64 g, i64 lm, i64 r, i64 (K : Int), .slice (some ⟨pb, po, none⟩) P.length pc, .slice (some ⟨lb, lo, none⟩) L.length lc], i64 (i : Int)] w' (Ret (i64 ((q + 2 * i : Nat) : Int)) w') from by
  have h := ref_Ticket t (s : Int) g lm r (K : Int) (some ⟨pb, po, none⟩) P.length pc (some ⟨lb, lo, none⟩) L.length lc (i : Int) w' (by omega) (by omega) (by omega) (by omega) (by omega)
  rw [show (P.length : Int) * (6 + 2 * (s : Int)) + 2 * (i : Int) = ((q + 2 * i : Nat) : Int) from by rw [hq]; push_cast; rfl] at h
  exact h)
 have HAV := hid (fun (i : Nat) (w' : World) (hi : i < 1000) => show Calls Tryz.prog 54 #[.agg #[i64 t, i64 (s : Int), i64 g, i64 lm, i64 r, i64 (K : Int), .slice (some ⟨pb, po, none⟩) P.length pc, .slice (some ⟨lb, lo, none⟩) L.length lc], i64 (i : Int)] w' (Ret (i64 ((i * (6 + 2 * s) + 1 : Nat) : Int)) w') from by
  have h := ref_Avail t (s : Int) g lm r (K : Int) (some ⟨pb, po, none⟩) P.length pc (some ⟨lb, lo, none⟩) L.length lc (i : Int) w' (by omega) (by omega) (by omega) (by omega)
  rw [show (i : Int) * (6 + 2 * (s : Int)) + 1 = ((i * (6 + 2 * s) + 1 : Nat) : Int) from by push_cast; rfl] at h
  exact h)
 have HWW := hid (show words12 s K P L nb f V = avaN (busyN (freshW (s : Int) (K : Int) P.length L) q f (min nb K)) (6 + 2 * s) V (min V.length P.length) from by rw [hq]; rfl)
 rw [← hq] at hfl hmq ⊢
 generalize words12 s K P L nb f V = WW at *
 clear hL hlen hB hV hvb
 go_enter Tryz.func41, Tryz.ntmps41
 go_wp2_with fail
 obtain ⟨w0, hw0⟩ : ∃ v, v = w.alloc (.cells #[i64 t, i64 (s : Int), i64 g, i64 lm, i64 r, i64 (K : Int), .slice (some ⟨pb, po, none⟩) P.length pc, .slice (some ⟨lb, lo, none⟩) L.length lc, .int .u8 (lf : Int), .int .u32 nn, .int .u16 th, .slice BA nb bc, .slice VA V.length vc, .slice KA nk kc] 31) := ⟨_, rfl⟩
 rw [← hw0]
 obtain ⟨ab, hab⟩ : ∃ v, v = w.heap.size := ⟨_, rfl⟩
 rw [← hab]
 have hs0 := St.nw (St.nil (Keep.refl _ w)) (Nw.blk (w' := w0) (b := ab) (T := 31) (cs := [i64 t, i64 (s : Int), i64 g, i64 lm, i64 r, i64 (K : Int), .slice (some ⟨pb, po, none⟩) P.length pc, .slice (some ⟨lb, lo, none⟩) L.length lc, .int .u8 (lf : Int), .int .u32 nn, .int .u16 th, .slice BA nb bc, .slice VA V.length vc, .slice KA nk kc]) (by rw [hw0]; exact Blk.made hab rfl) (by rw [hw0]; exact (Keep.refl _ _).alloc _) (by omega))
 have HS := hid hs0
 clear hs0 hw0 hab
 obtain ⟨F, hF⟩ : ∃ F, F = freshW (s : Int) (K : Int) P.length L := ⟨_, rfl⟩
 rw [← hF] at hfl HWW
 have HF := hid hF
 have HFL := hid hfl.symm
 have HQ := hid hq
 clear hF hfl hq
 refine Calls.mono (St.newx (q := fun (y : Nat × Nat) => refO y.2 y.1 F []) HS.out (show Calls _ _ _ _ (fun e w' => ∃ y : Nat × Nat, e = .returned (ptr y.1) ∧ Nw (refO y.2 y.1 F []) w0 w') from by rw [HF.out]; exact refO_Fresh w0 lb lo t (s : Int) g lm r (K : Int) (some ⟨pb, po, none⟩) P.length pc L.length lc L (by omega) (by omega) (by omega) (by omega) (by omega) (by have := HLEN.out; omega) (fun i hi => row_kept HS.out.k HL.out i (by have := HLEN.out; omega)) (Nat.lt_of_lt_of_le hlz HS.out.k.size))) ?_
 rintro e w1 ⟨y, rfl, hs1⟩
 clear HS
 have HS := hid hs1
 clear hs1
 have HBL := hid (busyN_len F q f)
 have HB0 := hid (show busyN F q f 0 = F from rfl)
 have HBN := hid (show ∀ i, busyN F q f (i + 1) = if f i = true then (busyN F q f i).set (q + 2 * i) 4294967297 else busyN F q f i from fun _ => rfl)
 have HKK := hid hK
 go_wp2_with fail
 go_loopw [4] (fun v4 wr => ∃ i : Nat, i ≤ min nb K ∧ v4 = .int .i64 i ∧ St w [refO y.2 y.1 (busyN F q f i) [], Ass.blk ab 31 [i64 t, i64 (s : Int), i64 g, i64 lm, i64 r, i64 (K : Int), .slice (some ⟨pb, po, none⟩) P.length pc, .slice (some ⟨lb, lo, none⟩) L.length lc, .int .u8 (lf : Int), .int .u32 nn, .int .u16 th, .slice BA nb bc, .slice VA V.length vc, .slice KA nk kc]] wr) (fun x _ => K - (intOf x).toNat)
 case atStart => exact ⟨0, Nat.zero_le _, rfl, by rw [HB0.out]; exact HS.out⟩
 case round =>
  obtain ⟨i, hi, rfl, hs2⟩ := hrel
  clear HS
  obtain ⟨w10, rfl⟩ : ∃ x, x = wr := ⟨_, rfl⟩
  have HS := hid hs2
  clear hs2
  obtain ⟨_, ⟨hb, _⟩, _⟩ := St.get (St.pick HS.out 1 (by simp))
  have qb := hb.k14
  clear hb
  by_cases h1 : i < nb
  · by_cases h2 : i < K
    · obtain ⟨bb, bo, rfl, hbc⟩ := HB.out.cell (by omega)
      have hc0 := hbc i h1
      have hbz : bb < w.heap.size := by have := World.block_lt_of_cell? _ _ hc0; simpa using this
      have hc := (cell_old HS.out.k hbz (fun h => h) _).trans hc0
      have hbz2 := Nat.lt_of_lt_of_le hbz HS.out.k.size
      clear hbc hc0
      cases hf : f i with
      | true =>
       rw [hf] at hc
       have HFI := hid hf
       clear hf
       go_wp2_with fail
       refine Calls.mono (HTK.out i _ (by omega)) ?_
       rintro e w11 ⟨rfl, hk⟩
       have hs := St.keep (show St w [refO y.2 y.1 (busyN F q f i) [], Ass.blk ab 31 [i64 t, i64 (s : Int), i64 g, i64 lm, i64 r, i64 (K : Int), .slice (some ⟨pb, po, none⟩) P.length pc, .slice (some ⟨lb, lo, none⟩) L.length lc, .int .u8 (lf : Int), .int .u32 nn, .int .u16 th, .slice (some ⟨bb, bo, none⟩) nb bc, .slice VA V.length vc, .slice KA nk kc]] _ from by repeat (with_reducible first | exact HS.out | apply St.alloc | apply St.drewN | apply St.drew)) hk
       clear HS
       have HS := hid (show St w [refO y.2 y.1 (busyN F q f i) [], Ass.blk ab 31 [i64 t, i64 (s : Int), i64 g, i64 lm, i64 r, i64 (K : Int), .slice (some ⟨pb, po, none⟩) P.length pc, .slice (some ⟨lb, lo, none⟩) L.length lc, .int .u8 (lf : Int), .int .u32 nn, .int .u16 th, .slice (some ⟨bb, bo, none⟩) nb bc, .slice VA V.length vc, .slice KA nk kc]] w11 from hs)
       clear hs hk
       clear qb
       obtain ⟨_, ⟨hb, _⟩, _⟩ := St.get (show St w [Ass.blk ab 31 [i64 t, i64 (s : Int), i64 g, i64 lm, i64 r, i64 (K : Int), .slice (some ⟨pb, po, none⟩) P.length pc, .slice (some ⟨lb, lo, none⟩) L.length lc, .int .u8 (lf : Int), .int .u32 nn, .int .u16 th, .slice (some ⟨bb, bo, none⟩) nb bc, .slice VA V.length vc, .slice KA nk kc], refO y.2 y.1 (busyN F q f i) []] w11 from (St.pick (show St w [refO y.2 y.1 (busyN F q f i) [], Ass.blk ab 31 [i64 t, i64 (s : Int), i64 g, i64 lm, i64 r, i64 (K : Int), .slice (some ⟨pb, po, none⟩) P.length pc, .slice (some ⟨lb, lo, none⟩) L.length lc, .int .u8 (lf : Int), .int .u32 nn, .int .u16 th, .slice (some ⟨bb, bo, none⟩) nb bc, .slice VA V.length vc, .slice KA nk kc]] w11 from by repeat (with_reducible first | exact HS.out | apply St.alloc | apply St.drewN | apply St.drew)) 1 (by simp)))
       have qb := hb.k14
       clear hb
       go_wp2_with fail
       refine Calls.mono (St.call (q := refO y.2 y.1 ((busyN F q f i).set (q + 2 * i) 4294967297) []) (show St w [refO y.2 y.1 (busyN F q f i) [], Ass.blk ab 31 [i64 t, i64 (s : Int), i64 g, i64 lm, i64 r, i64 (K : Int), .slice (some ⟨pb, po, none⟩) P.length pc, .slice (some ⟨lb, lo, none⟩) L.length lc, .int .u8 (lf : Int), .int .u32 nn, .int .u16 th, .slice (some ⟨bb, bo, none⟩) nb bc, .slice VA V.length vc, .slice KA nk kc]] _ from (show St w [refO y.2 y.1 (busyN F q f i) [], Ass.blk ab 31 [i64 t, i64 (s : Int), i64 g, i64 lm, i64 r, i64 (K : Int), .slice (some ⟨pb, po, none⟩) P.length pc, .slice (some ⟨lb, lo, none⟩) L.length lc, .int .u8 (lf : Int), .int .u32 nn, .int .u16 th, .slice (some ⟨bb, bo, none⟩) nb bc, .slice VA V.length vc, .slice KA nk kc]] _ from by repeat (with_reducible first | exact HS.out | apply St.alloc | apply St.drewN | apply St.drew))) (fun Rq hr hz => show Calls _ _ _ _ (fun e w' => e = .returned (.tuple #[]) ∧ Tr (refO y.2 y.1 ((busyN F q f i).set (q + 2 * i) 4294967297) []) Rq _ w') from by have h := refO_Poke ((q + 2 * i : Nat) : Int) 4294967297 hr (by omega) (by rw [HBL.out, ← HFL.out]; omega) (by rw [HBL.out, ← HFL.out]; omega); rw [Int.toNat_natCast] at h; exact h)) ?_
       rintro e w12 ⟨rfl, hs⟩
       clear HS
       have HS := hid (show St w [refO y.2 y.1 ((busyN F q f i).set (q + 2 * i) 4294967297) [], Ass.blk ab 31 [i64 t, i64 (s : Int), i64 g, i64 lm, i64 r, i64 (K : Int), .slice (some ⟨pb, po, none⟩) P.length pc, .slice (some ⟨lb, lo, none⟩) L.length lc, .int .u8 (lf : Int), .int .u32 nn, .int .u16 th, .slice (some ⟨bb, bo, none⟩) nb bc, .slice VA V.length vc, .slice KA nk kc]] w12 from hs)
       clear hs
       go_wp2_with fail
       go_roundw
       case rel => exact ⟨i + 1, by omega, by go_num, by rw [HBN.out, if_pos HFI.out]; exact HS.out⟩
       case measure => simp [intOf]; omega
      | false =>
       rw [hf] at hc
       have HFI := hid hf
       clear hf
       go_wp2_with fail
       go_roundw
       case rel => exact ⟨i + 1, by omega, by go_num, by rw [HBN.out, if_neg (by rw [HFI.out]; decide)]; exact HS.out⟩
       case measure => simp [intOf]; omega
    · have hin := hid (show i = min nb K from by omega)
      have hin2 := hin
      obtain ⟨G, hG⟩ : ∃ G, G = busyN F q f i := ⟨_, rfl⟩
      rw [← hG] at HS
      have hgl : G.length = q + 2 * K := by rw [hG, HBL.out, HFL.out]
      rw [← hin.out, ← hG] at HWW
      clear hG hin2 HBN HB0 HBL
      have HGL := hid hgl
      clear hgl
      have HG0 := hid (show avaN G (6 + 2 * s) V 0 = G from rfl)
      have HGN := hid (show ∀ j, avaN G (6 + 2 * s) V (j + 1) = (avaN G (6 + 2 * s) V j).set (j * (6 + 2 * s) + 1) (rd V j) from fun _ => rfl)
      have HGA := hid (avaN_len G (6 + 2 * s) V)
      go_wp2_with fail
      go_loopw [5] (fun v5 wr => ∃ i : Nat, i ≤ min V.length P.length ∧ v5 = .int .i64 i ∧ St w [refO y.2 y.1 (avaN G (6 + 2 * s) V i) [], Ass.blk ab 31 [i64 t, i64 (s : Int), i64 g, i64 lm, i64 r, i64 (K : Int), .slice (some ⟨pb, po, none⟩) P.length pc, .slice (some ⟨lb, lo, none⟩) L.length lc, .int .u8 (lf : Int), .int .u32 nn, .int .u16 th, .slice BA nb bc, .slice VA V.length vc, .slice KA nk kc]] wr) (fun x _ => P.length - (intOf x).toNat)
      case atStart => exact ⟨0, Nat.zero_le _, rfl, by rw [HG0.out]; exact HS.out⟩
      case round =>
       obtain ⟨j, hj, rfl, hs2⟩ := hrel
       clear HS
       obtain ⟨w20, rfl⟩ : ∃ x, x = wr := ⟨_, rfl⟩
       have HS := hid hs2
       clear hs2
       rw [show G.length = (avaN G (6 + 2 * s) V j).length from (HGA.out j).symm] at HGL
       obtain ⟨_, ⟨hb, _⟩, _⟩ := St.get (St.pick HS.out 1 (by simp))
       have qb := hb.k14
       clear hb
       by_cases g1 : j < V.length
       · have e1 : (j < V.length) = True := eq_true g1
         by_cases g2 : j < P.length
         · obtain ⟨vb, vo, rfl, hvc⟩ := HV.out.cell (by omega)
           have hv0 := hvc j g1
           have hvz : vb < w.heap.size := by have := World.block_lt_of_cell? _ _ hv0; simpa using this
           have HVC := hid hv0
           have hvb := HVB.out j g1
           have y6 : IntKind.i64.wrap (rd V j) = rd V j := IntWalk.i64_in _ (by omega)
           have HJB := hid (show j * (6 + 2 * s) + 1 < q + 2 * K from by rw [HQ.out]; have h9 : (j + 1) * (6 + 2 * s) ≤ P.length * (6 + 2 * s) := Nat.mul_le_mul g2 (Nat.le_refl _); rw [Nat.add_mul] at h9; omega)
           clear hvc hv0 hvb
           go_upto_region 10 with fail
           clear qb
           apply wp_region_text (WI := fun S wx => St w [Ass.blk ab 31 [i64 t, i64 (s : Int), i64 g, i64 lm, i64 r, i64 (K : Int), .slice (some ⟨pb, po, none⟩) P.length pc, .slice (some ⟨lb, lo, none⟩) L.length lc, .int .u8 (lf : Int), .int .u32 nn, .int .u16 th, .slice BA nb bc, .slice (some ⟨vb, vo, none⟩) V.length vc, .slice KA nk kc]] wx ∧ CA 11 (fun wx => St w [refO y.2 y.1 (avaN G (6 + 2 * s) V j) [], Ass.blk ab 31 [i64 t, i64 (s : Int), i64 g, i64 lm, i64 r, i64 (K : Int), .slice (some ⟨pb, po, none⟩) P.length pc, .slice (some ⟨lb, lo, none⟩) L.length lc, .int .u8 (lf : Int), .int .u32 nn, .int .u16 th, .slice BA nb bc, .slice (some ⟨vb, vo, none⟩) V.length vc, .slice KA nk kc]] wx) (fun wx => St w [refO y.2 y.1 ((avaN G (6 + 2 * s) V j).set (j * (6 + 2 * s) + 1) (rd V j)) [], Ass.blk ab 31 [i64 t, i64 (s : Int), i64 g, i64 lm, i64 r, i64 (K : Int), .slice (some ⟨pb, po, none⟩) P.length pc, .slice (some ⟨lb, lo, none⟩) L.length lc, .int .u8 (lf : Int), .int .u32 nn, .int .u16 th, .slice BA nb bc, .slice (some ⟨vb, vo, none⟩) V.length vc, .slice KA nk kc]] wx) S wx) (by kernel_rfl) (by kernel_rfl)
           case hob =>
            iterate 4
             apply Oblig.cons
             case h =>
              intro S w1 hwi hSi hd hcl
              apply StepOk.intro
              intro K hK
              obtain ⟨_, ⟨hb, _⟩, _⟩ := St.get hwi.1
              have qb := hb.k14
              have qv := (cell_old (St.k hwi.1) hvz (fun h => h) _).trans HVC.out
              have hvz2 := Nat.lt_of_lt_of_le hvz (St.k hwi.1).size
              go_simp
              apply hK
              · rfl
              · conv => (lhs; whnf)
              · exact ⟨hwi.1, hwi.2.fixed (by decide)⟩
             simp only [put_lit, put_none]
             try dsimp only [List.set_cons_succ, List.set_cons_zero]
            apply Oblig.cons
            case h =>
             intro S w1 hwi hSi hd hcl
             apply StepOk.intro
             intro K hK
             obtain ⟨_, ⟨hb, _⟩, _⟩ := St.get hwi.1
             have qb := hb.k14
             have qv := (cell_old (St.k hwi.1) hvz (fun h => h) _).trans HVC.out
             have hvz2 := Nat.lt_of_lt_of_le hvz (St.k hwi.1).size
             go_simp
             refine (HAV.out j _ (by omega)).mono ?_
             rintro e w2 ⟨rfl, hk⟩
             apply hK
             · rfl
             · conv => (lhs; whnf)
             · exact ⟨hwi.1.keep hk, CA.fixed (i := 4) ⟨fun h => (hwi.2.1 h).keep hk, fun h => (hwi.2.2 h).keep hk⟩ (show (4 : Nat) ≠ 11 from by decide)⟩
            simp only [put_lit, put_none]
            try dsimp only [List.set_cons_succ, List.set_cons_zero]
            iterate 6
             apply Oblig.cons
             case h =>
              intro S w1 hwi hSi hd hcl
              apply StepOk.intro
              intro K hK
              obtain ⟨_, ⟨hb, _⟩, _⟩ := St.get hwi.1
              have qb := hb.k14
              have qv := (cell_old (St.k hwi.1) hvz (fun h => h) _).trans HVC.out
              have hvz2 := Nat.lt_of_lt_of_le hvz (St.k hwi.1).size
              go_simp
              apply hK
              · rfl
              · conv => (lhs; whnf)
              · exact ⟨hwi.1, hwi.2.fixed (by decide)⟩
             simp only [put_lit, put_none]
             try dsimp only [List.set_cons_succ, List.set_cons_zero]
            apply Oblig.cons
            case h =>
             intro S w1 hwi hSi hd hcl
             apply StepOk.intro
             intro K hK
             go_simp
             refine Calls.mono (St.call (q := refO y.2 y.1 ((avaN G (6 + 2 * s) V j).set (j * (6 + 2 * s) + 1) (rd V j)) []) (hwi.2.1 hSi) (fun Rq hr hz => show Calls _ _ _ _ (fun e w' => e = .returned (.tuple #[]) ∧ Tr (refO y.2 y.1 ((avaN G (6 + 2 * s) V j).set (j * (6 + 2 * s) + 1) (rd V j)) []) Rq _ w') from by have h := refO_Poke ((j * (6 + 2 * s) + 1 : Nat) : Int) (rd V j) hr (by omega) (by rw [HGL.out]; have := HJB.out; omega) (by rw [HGL.out]; have := HJB.out; omega); rw [Int.toNat_natCast] at h; push_cast at h; exact h)) ?_
             rintro e w2 ⟨rfl, hs⟩
             apply hK
             · rfl
             · conv => (lhs; whnf)
             · exact ⟨St.drop hs, CA.done hs⟩
            simp only [put_lit, put_none]
            try dsimp only [List.set_cons_succ, List.set_cons_zero]
            exact Oblig.nil
           case h0 =>
            exact ⟨(St.drop HS.out).drew, ⟨fun _ => HS.out.drew, fun h => by cases h⟩⟩
           case hend =>
            intro S wx hwi hall
            have hs := hwi.2.2 (hall 11 (by decide))
            clear HS
            have HS := hid hs
            clear hwi hall hs
            go_wp2_with fail
            go_roundw
            case rel => exact ⟨j + 1, by omega, by go_num, by rw [HGN.out]; exact HS.out⟩
            case measure => simp [intOf]; omega
         · have e2 : (j < P.length) = False := eq_false g2
           have hjn := hid (show j = min V.length P.length from by omega)
           obtain ⟨wb, c9, lv, hm, hc9, hs9⟩ := St.wordsK HS.out (by rw [HGL.out]; omega)
           have qm := hm.k2
           have HS9 := hid hs9
           have HC9 := hid hc9
           clear hm hs9 hc9
           go_wp2_with fail
           go_ret
           exact ⟨(wb, c9), ⟨by rw [HGL.out]; rfl, by have := HC9.out; rw [HGL.out] at this; exact this⟩, by rw [HWW.out, ← hjn.out]; exact nw_one (St.out (St.head HS9.out))⟩
       · have e1 : (j < V.length) = False := eq_false g1
         have hjn := hid (show j = min V.length P.length from by omega)
         obtain ⟨wb, c9, lv, hm, hc9, hs9⟩ := St.wordsK HS.out (by rw [HGL.out]; omega)
         have qm := hm.k2
         have HS9 := hid hs9
         have HC9 := hid hc9
         clear hm hs9 hc9
         go_wp2_with fail
         go_ret
         exact ⟨(wb, c9), ⟨by rw [HGL.out]; rfl, by have := HC9.out; rw [HGL.out] at this; exact this⟩, by rw [HWW.out, ← hjn.out]; exact nw_one (St.out (St.head HS9.out))⟩
  · have hin := hid (show i = min nb K from by omega)
    have hin2 := hin
    obtain ⟨G, hG⟩ : ∃ G, G = busyN F q f i := ⟨_, rfl⟩
    rw [← hG] at HS
    have hgl : G.length = q + 2 * K := by rw [hG, HBL.out, HFL.out]
    rw [← hin.out, ← hG] at HWW
    clear hG hin2 HBN HB0 HBL
    have HGL := hid hgl
    clear hgl
    have HG0 := hid (show avaN G (6 + 2 * s) V 0 = G from rfl)
    have HGN := hid (show ∀ j, avaN G (6 + 2 * s) V (j + 1) = (avaN G (6 + 2 * s) V j).set (j * (6 + 2 * s) + 1) (rd V j) from fun _ => rfl)
    have HGA := hid (avaN_len G (6 + 2 * s) V)
    go_wp2_with fail
    go_loopw [5] (fun v5 wr => ∃ i : Nat, i ≤ min V.length P.length ∧ v5 = .int .i64 i ∧ St w [refO y.2 y.1 (avaN G (6 + 2 * s) V i) [], Ass.blk ab 31 [i64 t, i64 (s : Int), i64 g, i64 lm, i64 r, i64 (K : Int), .slice (some ⟨pb, po, none⟩) P.length pc, .slice (some ⟨lb, lo, none⟩) L.length lc, .int .u8 (lf : Int), .int .u32 nn, .int .u16 th, .slice BA nb bc, .slice VA V.length vc, .slice KA nk kc]] wr) (fun x _ => P.length - (intOf x).toNat)
    case atStart => exact ⟨0, Nat.zero_le _, rfl, by rw [HG0.out]; exact HS.out⟩
    case round =>
     obtain ⟨j, hj, rfl, hs2⟩ := hrel
     clear HS
     obtain ⟨w20, rfl⟩ : ∃ x, x = wr := ⟨_, rfl⟩
     have HS := hid hs2
     clear hs2
     rw [show G.length = (avaN G (6 + 2 * s) V j).length from (HGA.out j).symm] at HGL
     obtain ⟨_, ⟨hb, _⟩, _⟩ := St.get (St.pick HS.out 1 (by simp))
     have qb := hb.k14
     clear hb
     by_cases g1 : j < V.length
     · have e1 : (j < V.length) = True := eq_true g1
       by_cases g2 : j < P.length
       · obtain ⟨vb, vo, rfl, hvc⟩ := HV.out.cell (by omega)
         have hv0 := hvc j g1
         have hvz : vb < w.heap.size := by have := World.block_lt_of_cell? _ _ hv0; simpa using this
         have HVC := hid hv0
         have hvb := HVB.out j g1
         have y6 : IntKind.i64.wrap (rd V j) = rd V j := IntWalk.i64_in _ (by omega)
         have HJB := hid (show j * (6 + 2 * s) + 1 < q + 2 * K from by rw [HQ.out]; have h9 : (j + 1) * (6 + 2 * s) ≤ P.length * (6 + 2 * s) := Nat.mul_le_mul g2 (Nat.le_refl _); rw [Nat.add_mul] at h9; omega)
         clear hvc hv0 hvb
         go_upto_region 10 with fail
         clear qb
         apply wp_region_text (WI := fun S wx => St w [Ass.blk ab 31 [i64 t, i64 (s : Int), i64 g, i64 lm, i64 r, i64 (K : Int), .slice (some ⟨pb, po, none⟩) P.length pc, .slice (some ⟨lb, lo, none⟩) L.length lc, .int .u8 (lf : Int), .int .u32 nn, .int .u16 th, .slice BA nb bc, .slice (some ⟨vb, vo, none⟩) V.length vc, .slice KA nk kc]] wx ∧ CA 11 (fun wx => St w [refO y.2 y.1 (avaN G (6 + 2 * s) V j) [], Ass.blk ab 31 [i64 t, i64 (s : Int), i64 g, i64 lm, i64 r, i64 (K : Int), .slice (some ⟨pb, po, none⟩) P.length pc, .slice (some ⟨lb, lo, none⟩) L.length lc, .int .u8 (lf : Int), .int .u32 nn, .int .u16 th, .slice BA nb bc, .slice (some ⟨vb, vo, none⟩) V.length vc, .slice KA nk kc]] wx) (fun wx => St w [refO y.2 y.1 ((avaN G (6 + 2 * s) V j).set (j * (6 + 2 * s) + 1) (rd V j)) [], Ass.blk ab 31 [i64 t, i64 (s : Int), i64 g, i64 lm, i64 r, i64 (K : Int), .slice (some ⟨pb, po, none⟩) P.length pc, .slice (some ⟨lb, lo, none⟩) L.length lc, .int .u8 (lf : Int), .int .u32 nn, .int .u16 th, .slice BA nb bc, .slice (some ⟨vb, vo, none⟩) V.length vc, .slice KA nk kc]] wx) S wx) (by kernel_rfl) (by kernel_rfl)
         case hob =>
          iterate 4
           apply Oblig.cons
           case h =>
            intro S w1 hwi hSi hd hcl
            apply StepOk.intro
            intro K hK
            obtain ⟨_, ⟨hb, _⟩, _⟩ := St.get hwi.1
            have qb := hb.k14
            have qv := (cell_old (St.k hwi.1) hvz (fun h => h) _).trans HVC.out
            have hvz2 := Nat.lt_of_lt_of_le hvz (St.k hwi.1).size
            go_simp
            apply hK
            · rfl
            · conv => (lhs; whnf)
            · exact ⟨hwi.1, hwi.2.fixed (by decide)⟩
           simp only [put_lit, put_none]
           try dsimp only [List.set_cons_succ, List.set_cons_zero]
          apply Oblig.cons
          case h =>
           intro S w1 hwi hSi hd hcl
           apply StepOk.intro
           intro K hK
           obtain ⟨_, ⟨hb, _⟩, _⟩ := St.get hwi.1
           have qb := hb.k14
           have qv := (cell_old (St.k hwi.1) hvz (fun h => h) _).trans HVC.out
           have hvz2 := Nat.lt_of_lt_of_le hvz (St.k hwi.1).size
           go_simp
           refine (HAV.out j _ (by omega)).mono ?_
           rintro e w2 ⟨rfl, hk⟩
           apply hK
           · rfl
           · conv => (lhs; whnf)
           · exact ⟨hwi.1.keep hk, CA.fixed (i := 4) ⟨fun h => (hwi.2.1 h).keep hk, fun h => (hwi.2.2 h).keep hk⟩ (show (4 : Nat) ≠ 11 from by decide)⟩
          simp only [put_lit, put_none]
          try dsimp only [List.set_cons_succ, List.set_cons_zero]
          iterate 6
           apply Oblig.cons
           case h =>
            intro S w1 hwi hSi hd hcl
            apply StepOk.intro
            intro K hK
            obtain ⟨_, ⟨hb, _⟩, _⟩ := St.get hwi.1
            have qb := hb.k14
            have qv := (cell_old (St.k hwi.1) hvz (fun h => h) _).trans HVC.out
            have hvz2 := Nat.lt_of_lt_of_le hvz (St.k hwi.1).size
            go_simp
            apply hK
            · rfl
            · conv => (lhs; whnf)
            · exact ⟨hwi.1, hwi.2.fixed (by decide)⟩
           simp only [put_lit, put_none]
           try dsimp only [List.set_cons_succ, List.set_cons_zero]
          apply Oblig.cons
          case h =>
           intro S w1 hwi hSi hd hcl
           apply StepOk.intro
           intro K hK
           go_simp
           refine Calls.mono (St.call (q := refO y.2 y.1 ((avaN G (6 + 2 * s) V j).set (j * (6 + 2 * s) + 1) (rd V j)) []) (hwi.2.1 hSi) (fun Rq hr hz => show Calls _ _ _ _ (fun e w' => e = .returned (.tuple #[]) ∧ Tr (refO y.2 y.1 ((avaN G (6 + 2 * s) V j).set (j * (6 + 2 * s) + 1) (rd V j)) []) Rq _ w') from by have h := refO_Poke ((j * (6 + 2 * s) + 1 : Nat) : Int) (rd V j) hr (by omega) (by rw [HGL.out]; have := HJB.out; omega) (by rw [HGL.out]; have := HJB.out; omega); rw [Int.toNat_natCast] at h; push_cast at h; exact h)) ?_
           rintro e w2 ⟨rfl, hs⟩
           apply hK
           · rfl
           · conv => (lhs; whnf)
           · exact ⟨St.drop hs, CA.done hs⟩
          simp only [put_lit, put_none]
          try dsimp only [List.set_cons_succ, List.set_cons_zero]
          exact Oblig.nil
         case h0 =>
          exact ⟨(St.drop HS.out).drew, ⟨fun _ => HS.out.drew, fun h => by cases h⟩⟩
         case hend =>
          intro S wx hwi hall
          have hs := hwi.2.2 (hall 11 (by decide))
          clear HS
          have HS := hid hs
          clear hwi hall hs
          go_wp2_with fail
          go_roundw
          case rel => exact ⟨j + 1, by omega, by go_num, by rw [HGN.out]; exact HS.out⟩
          case measure => simp [intOf]; omega
       · have e2 : (j < P.length) = False := eq_false g2
         have hjn := hid (show j = min V.length P.length from by omega)
         obtain ⟨wb, c9, lv, hm, hc9, hs9⟩ := St.wordsK HS.out (by rw [HGL.out]; omega)
         have qm := hm.k2
         have HS9 := hid hs9
         have HC9 := hid hc9
         clear hm hs9 hc9
         go_wp2_with fail
         go_ret
         exact ⟨(wb, c9), ⟨by rw [HGL.out]; rfl, by have := HC9.out; rw [HGL.out] at this; exact this⟩, by rw [HWW.out, ← hjn.out]; exact nw_one (St.out (St.head HS9.out))⟩
     · have e1 : (j < V.length) = False := eq_false g1
       have hjn := hid (show j = min V.length P.length from by omega)
       obtain ⟨wb, c9, lv, hm, hc9, hs9⟩ := St.wordsK HS.out (by rw [HGL.out]; omega)
       have qm := hm.k2
       have HS9 := hid hs9
       have HC9 := hid hc9
       clear hm hs9 hc9
       go_wp2_with fail
       go_ret
       exact ⟨(wb, c9), ⟨by rw [HGL.out]; rfl, by have := HC9.out; rw [HGL.out] at this; exact this⟩, by rw [HWW.out, ← hjn.out]; exact nw_one (St.out (St.head HS9.out))⟩
end Go.Proofs.YthaceckccobgeaaGreat

namespace Go.Proofs.YthaceckccobgeaaGreat
open Go.RowKit
set_option linter.unusedVariables false
set_option linter.unusedSimpArgs false
set_option maxRecDepth 100000
theorem r12O_Ans {p : P12} {t : S12} {y : Nat} {R : Nat → Prop} {w : World} (h : (r12O p y t).At R w) (h6 : t.ph = 6) :
 Calls Tryz.prog 43 #[ptr y] w (Ret (.agg #[i64 t.err, i64 t.on, .bool false, i64 t.ond]) w) := by
 obtain ⟨a, pv, av, hs, hco⟩ := h
 have hex : ex12 p t pv av = [] := by unfold ex12; rw [if_neg (by omega), if_neg (by omega)]
 rw [hex] at hs
 obtain ⟨_, ⟨hb, _⟩, _⟩ := Sx.get (Sx.start hs)
 rw [h6] at hb
 exact r12_Ans6 (c := []) hb
section
variable {p : P12} {X : Int} {t : S12}
def go12 (p : P12) (t : S12) : Nat → S12
 | 0 => t
 | n + 1 => n12 p (go12 p t n)
theorem go12_I (hp : P12OK p) (h : I12 p X t) (n : Nat) : X + (n : Int) * 1048576 ≤ 4398046511104 → I12 p (X + (n : Int) * 1048576) (go12 p t n) := by
 induction n with
 | zero =>
  intro _
  rw [show X + ((0 : Nat) : Int) * 1048576 = X from by simp]
  exact h
 | succ n ih =>
  intro hx
  rw [Int.natCast_succ, Int.add_mul, Int.one_mul] at hx ⊢
  have h2 := I12.step hp (ih (by omega)) (by omega)
  rw [← Int.add_assoc]
  exact h2
theorem go12_L (hp : P12OK p) (h : I12 p X t) (n : Nat) : X + (n : Int) * 1048576 ≤ 4398046511104 → (go12 p t n).L.length ≤ t.L.length + n := by
 induction n with
 | zero => intro _; exact Nat.le_refl _
 | succ n ih =>
  intro hx
  rw [Int.natCast_succ, Int.add_mul, Int.one_mul] at hx
  have h1 := go12_I hp h n (by omega)
  have h2 := ih (by omega)
  have h3 := n12_logle h1
  rw [go12]
  omega
theorem go12_over {n : Nat} (h : (go12 p t n).ph = 6) : ∀ k, go12 p t (n + k) = go12 p t n
 | 0 => rfl
 | k + 1 => by
  show n12 p (go12 p t (n + k)) = _
  rw [go12_over h k]
  exact I12.over h
theorem go12_end {n m : Nat} (h : (go12 p t n).ph = 6 ∨ n = m) (hn : n ≤ m) : go12 p t m = go12 p t n := by
 rcases h with h | rfl
 · obtain ⟨k, rfl⟩ := Nat.exists_eq_add_of_le hn
   exact go12_over h k
 · rfl
end
def p13 (tt : Int) (s : Nat) (g lm r : Int) (K : Nat) (P L : List Int) (x : Int) (i : Nat) : P12 := ⟨tt, s, g, lm, r, K, P, L, leafN P x.toNat, x % 20 + 1, i, pathN P (leafN P x.toNat)⟩
section
variable (tt : Int) (s : Nat) (g lm r : Int) (K : Nat) (P L X : List Int) (W0 : List Int)
def z13 (M : Nat) : Nat → List Int × List Acc × List Int
 | 0 => (W0, [], [])
 | i + 1 =>
  let t := go12 (p13 tt s g lm r K P L (rd X i) i) (start12 (p13 tt s g lm r K P L (rd X i) i) (z13 M i).1 (z13 M i).2.1) M
  (t.W, t.L, if t.ph = 6 ∧ t.err = 0 then (z13 M i).2.2 ++ [t.on] else (z13 M i).2.2)
theorem z13_h (M : Nat) : ∀ i, (z13 tt s g lm r K P L X W0 M i).2.2.length ≤ i
 | 0 => Nat.le_refl _
 | i + 1 => by
  have h := z13_h M i
  rw [z13]
  dsimp only
  split
  · rw [List.length_append]; simp; omega
  · omega
structure Set12 : Prop where
 s1 : p2 (s : Int)
 g1 : 1 ≤ g ∧ g ≤ 1048576
 l1 : 0 ≤ lm ∧ lm ≤ 1048576
 k1 : 1 ≤ K ∧ K ≤ 16
 p1 : 1 ≤ P.length ∧ P.length ≤ 12
 ll : L.length = P.length
 pr : ParR P
variable {tt s g lm r K P L X W0}
theorem Set12.ok (h : Set12 s g lm K P L) (x : Int) (i : Nat) (hi : i ≤ 1000) : P12OK (p13 tt s g lm r K P L x i) := by
 have hl := leafN_lt h.pr h.p1.1 x.toNat
 have hx0 := Int.emod_nonneg x (show (20 : Int) ≠ 0 by omega)
 have hx1 := Int.emod_lt_of_pos x (show (0 : Int) < 20 by omega)
 refine ⟨h.s1, h.g1, h.l1, h.k1, h.p1, h.ll, hl, ?_, hi, ?_, ?_⟩
 · show 1 ≤ x % 20 + 1 ∧ x % 20 + 1 ≤ 1048576
   omega
 · have := pathN_mem h.pr.ok (leafN P x.toNat) hl
   have := h.p1
   show 1 ≤ (pathN P (leafN P x.toNat)).length ∧ (pathN P (leafN P x.toNat)).length ≤ 12
   omega
 · intro v hv
   have h1 : v ≤ leafN P x.toNat := (pathN_mem h.pr.ok (leafN P x.toNat) hl).1 v hv
   show v < P.length
   omega
theorem WOK.of13 {x y : Int} {i j : Nat} {Z : Int} {W : List Int} (h : WOK (p13 tt s g lm r K P L x i) Z W) : WOK (p13 tt s g lm r K P L y j) Z W := ⟨h.ln, h.av, h.le, h.lv⟩
theorem z13_ok (h : Set12 s g lm K P L) {Z : Int} {M : Nat} (hM : M ≤ 3000) (hw : ∀ (x : Int) (i : Nat), WOK (p13 tt s g lm r K P L x i) Z W0) (hZ : 0 ≤ Z ∧ Z ≤ 4000000000000) (i : Nat) : i ≤ 4 → (∀ x j, WOK (p13 tt s g lm r K P L x j) (Z + (i : Int) * 3145728000) (z13 tt s g lm r K P L X W0 M i).1) ∧ (z13 tt s g lm r K P L X W0 M i).2.1.length ≤ i * 3000 := by
 induction i with
 | zero =>
  intro _
  refine ⟨fun x j => ?_, Nat.zero_le _⟩
  rw [show Z + ((0 : Nat) : Int) * 3145728000 = Z from by simp]
  exact hw x j
 | succ i ih =>
  intro hi
  obtain ⟨h1, h2⟩ := ih (by omega)
  rw [Int.natCast_succ, Int.add_mul, Int.one_mul, ← Int.add_assoc]
  have hp := h.ok (tt := tt) (r := r) (rd X i) i (by omega)
  have h3 := I12.start hp (L := (z13 tt s g lm r K P L X W0 M i).2.1) (h1 (rd X i) i)
  have hb : Z + (i : Int) * 3145728000 + (M : Int) * 1048576 ≤ 4398046511104 := by omega
  have h4 := (go12_I hp h3 M hb).w
  have h5 := go12_L hp h3 M hb
  have h7 : (start12 (p13 tt s g lm r K P L (rd X i) i) (z13 tt s g lm r K P L X W0 M i).1 (z13 tt s g lm r K P L X W0 M i).2.1).L = (z13 tt s g lm r K P L X W0 M i).2.1 := rfl
  rw [h7] at h5
  rw [z13]
  dsimp only
  exact ⟨fun x j => (h4.more (by omega)).of13, by omega⟩
end
section
theorem rd_lay13 (s v x : Int) (W : List Int) (p : Nat) : rd (layW s v x W) p = rd W p ∨ rd (layW s v x W) p = x ∨ rd (layW s v x W) p = 1 := by
 unfold layW
 rw [rd_set, rd_set, rd_set]
 split
 · right; right; rfl
 · split
   · right; left; rfl
   · split
     · right; left; rfl
     · left; rfl
theorem fresh13_bound {L : List Int} (hL : ∀ i, i < L.length → 0 ≤ rd L i ∧ rd L i ≤ 1099511627776) (s : Int) (n : Nat) (hn : n ≤ L.length) (N p : Nat) : 0 ≤ rd (layN s L n (List.replicate N 0)) p ∧ rd (layN s L n (List.replicate N 0)) p ≤ 1099511627776 := by
 induction n with
 | zero =>
  have e : rd (List.replicate N (0 : Int)) p = 0 := by
   unfold rd
   rw [List.getD_eq_getElem?_getD, List.getElem?_replicate]
   split <;> rfl
  rw [layN, e]; omega
 | succ n ih =>
  have h1 := ih (by omega)
  have h2 := hL n (by omega)
  rw [layN]
  rcases rd_lay13 s n (rd L n) (layN s L n (List.replicate N 0)) p with h | h | h
  · rw [h]; exact h1
  · rw [h]; exact h2
  · rw [h]; omega
theorem fresh13_lease (s : Int) (hs : 1 ≤ s) (L : List Int) (n N p : Nat) (v u : Int) (hv : 0 ≤ v) (hu : 0 ≤ u ∧ u < s) (hp : (p : Int) = v * (6 + 2 * s) + 2 + u) : rd (layN s L n (List.replicate N 0)) p = 0 := by
 induction n with
 | zero =>
  unfold rd
  rw [layN, List.getD_eq_getElem?_getD, List.getElem?_replicate]
  split <;> rfl
 | succ n ih =>
  rw [layN, layW, rd_set, rd_set, rd_set]
  have hE : 0 ≤ 6 + 2 * s := by omega
  have h0 : 0 ≤ (n : Int) * (6 + 2 * s) := Int.mul_nonneg (by omega) hE
  have key : ∀ c : Int, 0 ≤ c → c < 6 + 2 * s → c ≠ 2 + u → (n : Int) * (6 + 2 * s) + c ≠ p := by
   intro c hc0 hc1 hc2 e
   rw [hp] at e
   rcases Int.lt_trichotomy n v with h | h | h
   · have h1 : ((n : Int) + 1) * (6 + 2 * s) ≤ v * (6 + 2 * s) := Int.mul_le_mul_of_nonneg_right (by omega) hE
     rw [Int.add_mul, Int.one_mul] at h1
     omega
   · rw [h] at e; omega
   · have h1 : (v + 1) * (6 + 2 * s) ≤ (n : Int) * (6 + 2 * s) := Int.mul_le_mul_of_nonneg_right (by omega) hE
     rw [Int.add_mul, Int.one_mul] at h1
     omega
  have k0 := key 0 (by omega) (by omega) (by omega)
  have k1 := key 1 (by omega) (by omega) (by omega)
  have k2 := key (2 + s + 3) (by omega) (by omega) (by omega)
  rw [if_neg (by omega), if_neg (by omega), if_neg (by omega)]
  exact ih
variable {p : P12}
theorem freshW_live (s : Int) (hs : 1 ≤ s) (L : List Int) (n N : Nat) (v : Nat) (hv : v < n) (hN : (v + 1 : Int) * (6 + 2 * s) ≤ N) : rd (layN s L n (List.replicate N 0)) ((v : Int) * (6 + 2 * s) + 2 + s + 3).toNat = 1 := by
 induction n with
 | zero => omega
 | succ n ih =>
  have hE : 0 ≤ 6 + 2 * s := by omega
  have h0 : 0 ≤ (v : Int) * (6 + 2 * s) := Int.mul_nonneg (by omega) hE
  have h0n : 0 ≤ (n : Int) * (6 + 2 * s) := Int.mul_nonneg (by omega) hE
  rw [Int.add_mul, Int.one_mul] at hN
  rw [layN, layW, rd_set]
  by_cases e : v = n
  · subst e
    rw [if_pos ⟨rfl, by rw [List.length_set, List.length_set, layN_length, List.length_replicate]; omega⟩]
  · have h1 : ((v : Int) + 1) * (6 + 2 * s) ≤ (n : Int) * (6 + 2 * s) := Int.mul_le_mul_of_nonneg_right (by omega) hE
    rw [Int.add_mul, Int.one_mul] at h1
    rw [if_neg (by omega), rd_set, if_neg (by omega), rd_set, if_neg (by omega)]
    exact ih (by omega)
theorem WOK.fresh (hp : P12OK p) (hL : ∀ i, i < p.LL.length → 0 ≤ rd p.LL i ∧ rd p.LL i ≤ 1099511627776) : WOK p 1099511627776 (freshW (p.s : Int) (p.K : Int) p.P.length p.LL) := by
 have hs := hp.s8
 have hb := fun q => fresh13_bound hL (p.s : Int) p.P.length (by rw [hp.ll]; exact Nat.le_refl _) (p.P.length * (6 + 2 * (p.s : Int)) + 2 * (p.K : Int)).toNat q
 refine ⟨by rw [fresh14_len]; rfl, fun v hv => hb _, fun v hv u hu => ?_, fun v hv => ?_⟩
 · have h1 : rd (freshW (p.s : Int) (p.K : Int) p.P.length p.LL) (p.le v u) = 0 := fresh13_lease (p.s : Int) (by omega) p.LL p.P.length _ (p.le v u) (v : Int) (u : Int) (by omega) (by omega) (by unfold P12.le; push_cast; rfl)
   rw [h1]
   exact ⟨by omega, hp.l1.1⟩
 · have hm : ((v : Int) + 1) * (6 + 2 * (p.s : Int)) ≤ (p.P.length : Int) * (6 + 2 * (p.s : Int)) := Int.mul_le_mul_of_nonneg_right (by omega) (by omega)
   have h0 : 0 ≤ (v : Int) * (6 + 2 * (p.s : Int)) := Int.mul_nonneg (by omega) (by omega)
   have h1 := freshW_live (p.s : Int) (by omega) p.LL p.P.length (p.P.length * (6 + 2 * (p.s : Int)) + 2 * (p.K : Int)).toNat v hv (by omega)
   have h2 : ((v : Int) * (6 + 2 * (p.s : Int)) + 2 + (p.s : Int) + 3).toNat = p.ct v + 3 := by
    unfold P12.ct
    rw [show (v : Int) * (6 + 2 * (p.s : Int)) + 2 + (p.s : Int) + 3 = ((v * (6 + 2 * p.s) + 2 + p.s + 3 : Nat) : Int) from by push_cast; rfl, Int.toNat_natCast]
   rw [h2] at h1
   have h3 : rd (freshW (p.s : Int) (p.K : Int) p.P.length p.LL) (p.ct v + 3) = 1 := h1
   rw [h3]
   exact ⟨Or.inl rfl, by omega⟩
theorem WOK.busy (hp : P12OK p) {X : Int} {W : List Int} (h : WOK p X W) (f : Nat → Bool) : ∀ n, WOK p X (busyN W p.q f n)
 | 0 => h
 | n + 1 => by
  rw [busyN]
  split
  · exact (WOK.busy hp h f n).ticket hp _ _ (by omega)
  · exact WOK.busy hp h f n
theorem WOK.ava (hp : P12OK p) {X : Int} {W : List Int} (h : WOK p X W) (V : List Int) (hV : ∀ i, i < V.length → 0 ≤ rd V i ∧ rd V i ≤ X) : ∀ n, n ≤ V.length → WOK p X (avaN W (6 + 2 * p.s) V n)
 | 0, _ => h
 | n + 1, hn => by
  rw [avaN]
  exact (WOK.ava hp h V hV n (by omega)).setav hp n _ (hV n (by omega))
theorem WOK.words12 (hp : P12OK p) (hL : ∀ i, i < p.LL.length → 0 ≤ rd p.LL i ∧ rd p.LL i ≤ 1099511627776) (nb : Nat) (f : Nat → Bool) (V : List Int) (hV : ∀ i, i < V.length → 0 ≤ rd V i ∧ rd V i ≤ 4294967295) : WOK p 1099511627776 (words12 p.s p.K p.P p.LL nb f V) :=
 WOK.ava hp (WOK.busy hp (WOK.fresh hp hL) f _) V (fun i hi => ⟨(hV i hi).1, by have := (hV i hi).2; omega⟩) _ (Nat.min_le_left _ _)
end
end Go.Proofs.YthaceckccobgeaaGreat

namespace Go.Proofs.YthaceckccobgeaaGreat
open Go.RowKit
set_option linter.unusedVariables false
set_option linter.unusedSimpArgs false
set_option maxRecDepth 100000
theorem St.layR {w0 w1 w2 : World} {wb n : Nat} {l : List Ass} {W : List Int} {c : Nat} (h : St w0 (intsK wb c W :: l) w1) (hb : Blk w2 n 42 [.slice (some ⟨wb, 0, none⟩) W.length c, .slice none 0 0]) (hk : Keep0 w1 w2) (hn : w1.heap.size ≤ n) : St w0 (refO w0.heap.size n W [] :: l) w2 := by
 have h1 := St.pair (St.nw h (Nw.blk hb hk hn))
 refine h1.mono ?_
 rintro V ⟨R1, R2, ⟨g1, g2⟩, gk, g5, g6⟩ hz
 obtain ⟨g3, g4⟩ := intsK_ints gk
 have hgz : w0.heap.size ≤ wb := hz wb ((g6 wb).2 (Or.inr ((g4 wb).2 rfl)))
 have hbz : w0.heap.size ≤ n := hz n ((g6 n).2 (Or.inl ((g2 n).2 rfl)))
 refine ⟨some ⟨wb, 0, none⟩, c, .slice none 0 0, ⟨Nat.le_trans h.k.size hk.size, hbz, g1, intsK_row _ hgz gk, by simpa [accs] using World.ownsRow_nil _ _ _ _⟩, fun k => ?_⟩
 rw [g6, g2, g4]
 unfold RF
 simp [Value.ownBlock]
 constructor
 · rintro (h | h)
   · exact Or.inl h
   · exact Or.inr h.symm
 · rintro (h | h)
   · exact Or.inl h
   · exact Or.inr h.symm
def U16At (w : World) (A : Option Addr) (l : List Int) : Prop := l = [] ∨ ∃ b o, A = some ⟨b, o, none⟩ ∧ ∀ i, i < l.length → w.cell? ⟨b, o + i, none⟩ = some (.int .u16 (rd l i))
theorem U16At.cell {w : World} {A : Option Addr} {l : List Int} (h : U16At w A l) (hl : 0 < l.length) : ∃ b o, A = some ⟨b, o, none⟩ ∧ (∀ i, i < l.length → w.cell? ⟨b, o + i, none⟩ = some (.int .u16 (rd l i))) := by
 rcases h with rfl | h
 · simp at hl
 · exact h
set_option maxHeartbeats 4000000 in
theorem law13_Words (t g lm r : Int) (s K : Nat) (P L : List Int) (pb po pc lb lo lc : Nat) (lf : Nat) (nn th : Int) (BA : Option Addr) (nb bc : Nat) (VA : Option Addr) (V : List Int) (vc : Nat) (KA : Option Addr) (nk kc : Nat) (f : Nat → Bool) (XA : Option Addr) (X : List Int) (xc M : Nat) (hM : M = 3000) (w : World) (hset : Set12 s g lm K P L) (hLb : ∀ i, i < L.length → 0 ≤ rd L i ∧ rd L i ≤ 1099511627776)
 (hP : ∀ i, i < P.length → w.cell? ⟨pb, po + i, none⟩ = some (i64 (rd P i))) (hL : ∀ i, i < L.length → w.cell? ⟨lb, lo + i, none⟩ = some (i64 (rd L i)))
 (hB : BsAt w BA nb f) (hV : U32At w VA V) (hvb : ∀ i, i < V.length → 0 ≤ rd V i ∧ rd V i ≤ 4294967295) (hn1 : nb ≤ 30) (hn2 : V.length ≤ 30) (hX : U16At w XA X) (hxb : ∀ i, i < X.length → 0 ≤ rd X i ∧ rd X i ≤ 65535) (hxl : X.length ≤ 20) :
 Calls Tryz.prog 9 #[.agg #[i64 t, i64 (s : Int), i64 g, i64 lm, i64 r, i64 (K : Int), .slice (some ⟨pb, po, none⟩) P.length pc, .slice (some ⟨lb, lo, none⟩) L.length lc, .int .u8 (lf : Int), .int .u32 nn, .int .u16 th, .slice BA nb bc, .slice VA V.length vc, .slice KA nk kc], .slice XA X.length xc] w fun e w' => ∃ x : (Nat × Nat) × (Option Addr × Nat), (e = .returned (.tuple #[.slice (some ⟨x.1.1, 0, none⟩) (P.length * (6 + 2 * s) + 2 * K) x.1.2, .slice x.2.1 (z13 t s g lm r K P L X (words12 s K P L nb f V) M (min X.length 4)).2.2.length x.2.2]) ∧ (P.length * (6 + 2 * s) + 2 * K ≤ x.1.2 ∧ x.1.2 ≤ 9223372036854775807)) ∧ Nw ((intsK x.1.1 x.1.2 (z13 t s g lm r K P L X (words12 s K P L nb f V) M (min X.length 4)).1).star (rowO 3 1 (.slice x.2.1 (z13 t s g lm r K P L X (words12 s K P L nb f V) M (min X.length 4)).2.2.length x.2.2) (z13 t s g lm r K P L X (words12 s K P L nb f V) M (min X.length 4)).2.2.length (ints (z13 t s g lm r K P L X (words12 s K P L nb f V) M (min X.length 4)).2.2))) w w' := by
 obtain ⟨i0, hti, hz0, hz1, hz2⟩ := info_parts info_int
 have HI := hid hti
 have hp1 := hset.p1
 have hs8 : 1 ≤ s ∧ s ≤ 8 := by have := hset.s1; unfold p2 at this; omega
 have hK := hset.k1
 have hpz : pb < w.heap.size := by have h := World.block_lt_of_cell? _ _ (hP 0 (by omega)); simpa using h
 have HP := hid hP
 have HL := hid hL
 have HSET := hid hset
 have HX := hid hX
 have HXB := hid hxb
 have HMM := hid hM
 have HLF := hid (fun (n : Nat) (w' : World) (hk : Keep0 w w') => law12_Leaf t (s : Int) g lm r (K : Int) P pb po pc (some ⟨lb, lo, none⟩) L.length lc n w' (by omega) hset.pr (by omega) (fun i hi => (cell_old hk hpz (fun h => h) _).trans (hP i hi)))
 have HN := hid (fun (i : Nat) (w' : World) (W : List Int) (LL : List Acc) (hk : Keep0 w w') (hi : i ≤ 1000) => r12_New (p := p13 t s g lm r K P L (rd X i) i) (hset.ok (rd X i) i hi) hset.pr.ok rfl pb po pc lb lo lc w' (row_kept hk hP) (row_kept hk hL) W LL)
 have HWD := hid (fun (w' : World) (hk : Keep0 w w') => law12_Words t g lm r s K P L pb po pc lb lo lc lf nn th BA nb bc VA V vc KA nk kc f w' hs8 hK hp1 hset.ll (row_kept hk hL) (hB.keep hk) (hV.keep hk) hvb hn1 hn2)
 have hw0 : ∀ x i, WOK (p13 t s g lm r K P L x i) 1099511627776 (words12 s K P L nb f V) := fun x i => (WOK.words12 (hset.ok (tt := t) (r := r) x 0 (by omega)) hLb nb f V hvb).of13
 have HOK := hid (fun i (hi : i ≤ 4) => z13_ok (X := X) hset (M := M) (by omega) hw0 (by omega) i hi)
 have HZH := hid (z13_h t s g lm r K P L X (words12 s K P L nb f V) M)
 have HZ0 := hid (show z13 t s g lm r K P L X (words12 s K P L nb f V) M 0 = (words12 s K P L nb f V, [], []) from rfl)
 have HZS := hid (show ∀ i, z13 t s g lm r K P L X (words12 s K P L nb f V) M (i + 1) = (fun u : S12 => (u.W, u.L, if u.ph = 6 ∧ u.err = 0 then (z13 t s g lm r K P L X (words12 s K P L nb f V) M i).2.2 ++ [u.on] else (z13 t s g lm r K P L X (words12 s K P L nb f V) M i).2.2)) (go12 (p13 t s g lm r K P L (rd X i) i) (start12 (p13 t s g lm r K P L (rd X i) i) (z13 t s g lm r K P L X (words12 s K P L nb f V) M i).1 (z13 t s g lm r K P L X (words12 s K P L nb f V) M i).2.1) M) from fun i => rfl)
 have HWL := hid (words12_len s K P L nb f V)
 generalize z13 t s g lm r K P L X (words12 s K P L nb f V) M = Z at *
 generalize words12 s K P L nb f V = WW at *
 obtain ⟨q, hq⟩ : ∃ q, q = P.length * (6 + 2 * s) := ⟨_, rfl⟩
 rw [← hq] at HWL HWD ⊢
 have HQ := hid hq
 clear hP hL hset hX hxb hM hB hV hvb hw0 hLb hti hq
 go_enter Tryz.func9, Tryz.ntmps9
 obtain ⟨w0, hw0⟩ : ∃ v, v = w.alloc (.cells #[i64 t, i64 (s : Int), i64 g, i64 lm, i64 r, i64 (K : Int), .slice (some ⟨pb, po, none⟩) P.length pc, .slice (some ⟨lb, lo, none⟩) L.length lc, .int .u8 (lf : Int), .int .u32 nn, .int .u16 th, .slice BA nb bc, .slice VA V.length vc, .slice KA nk kc] 31) := ⟨_, rfl⟩
 go_upto_region 1 with fail
 rw [← hw0]
 obtain ⟨ab, hab⟩ : ∃ v, v = w.heap.size := ⟨_, rfl⟩
 rw [← hab]
 have hs0 := St.nw (St.nil (Keep.refl _ w)) (Nw.blk (w' := w0) (b := ab) (T := 31) (cs := [i64 t, i64 (s : Int), i64 g, i64 lm, i64 r, i64 (K : Int), .slice (some ⟨pb, po, none⟩) P.length pc, .slice (some ⟨lb, lo, none⟩) L.length lc, .int .u8 (lf : Int), .int .u32 nn, .int .u16 th, .slice BA nb bc, .slice VA V.length vc, .slice KA nk kc]) (by rw [hw0]; exact Blk.made hab rfl) (by rw [hw0]; exact (Keep.refl _ _).alloc _) (by omega))
 have HS := hid hs0
 obtain ⟨_, ⟨hb, _⟩, _⟩ := St.get HS.out
 have qb := hb.k14
 clear hs0 hw0 hab hb
 go_wp2_with fail
 refine Calls.mono (St.newx HS.out (HWD.out w0 HS.out.k)) ?_
 rintro e w1 ⟨⟨wb, c9⟩, ⟨rfl, hc9⟩, hs1⟩
 clear HS qb
 have HS := hid hs1
 have HC9 := hid hc9
 clear hs1 hc9
 obtain ⟨B, hB⟩ : ∃ B, B = w.heap.size := ⟨_, rfl⟩
 obtain ⟨m, hm⟩ : ∃ m, m = w1.heap.size := ⟨_, rfl⟩
 obtain ⟨w2, hw2⟩ : ∃ v, v = w1.alloc (.cells #[.slice (some ⟨wb, 0, none⟩) (q + 2 * K) c9, .slice none 0 0] 42) := ⟨_, rfl⟩
 have hs2 := St.layR (n := m) HS.out (w2 := w2) (by rw [hw2, HWL.out]; exact Blk.made hm rfl) (by rw [hw2]; exact (Keep.refl _ _).alloc _) (by omega)
 rw [← hB] at hs2
 clear HS
 have HS := hid (St.nw hs2 (rowO_nil 3 1 _))
 clear hs2 hB
 go_upto_region 2 with fail
 rw [← hw2, ← hm]
 clear hw2 hm
 go_wp2_with fail
 go_loopw [7, 8] (fun v7 v8 wr => ∃ (i : Nat) (A : Option Addr) (c : Nat), i ≤ min X.length 4 ∧ v8 = .int .i64 i ∧ v7 = .slice A (Z i).2.2.length c ∧ St w [rowO 3 1 (.slice A (Z i).2.2.length c) (Z i).2.2.length (ints (Z i).2.2), refO B m (Z i).1 (Z i).2.1, Ass.blk ab 31 [i64 t, i64 (s : Int), i64 g, i64 lm, i64 r, i64 (K : Int), .slice (some ⟨pb, po, none⟩) P.length pc, .slice (some ⟨lb, lo, none⟩) L.length lc, .int .u8 (lf : Int), .int .u32 nn, .int .u16 th, .slice BA nb bc, .slice VA V.length vc, .slice KA nk kc]] wr) (fun _ x _ => 4 - (intOf x).toNat)
 case atStart => exact ⟨0, none, 0, Nat.zero_le _, rfl, by rw [HZ0.out]; rfl, by rw [HZ0.out]; exact HS.out⟩
 case round =>
  obtain ⟨i, A, c, hi, rfl, rfl, hs⟩ := hrel
  clear HS
  have HS := hid hs
  clear hs
  obtain ⟨w10, rfl⟩ : ∃ v, v = wr := ⟨_, rfl⟩
  by_cases h1 : i < X.length
  · by_cases h2 : i < 4
    · obtain ⟨xb, xo, rfl, hxc⟩ := HX.out.cell (by omega)
      have hx0 := hxc i h1
      have hxb0 : xb < w.heap.size := by have := World.block_lt_of_cell? _ _ hx0; simpa using this
      have hxz : xb < w10.heap.size := Nat.lt_of_lt_of_le hxb0 HS.out.k.size
      obtain ⟨xn, hxn⟩ : ∃ n : Nat, rd X i = (n : Int) := Int.eq_ofNat_of_zero_le (HXB.out i h1).1
      have hxn1 : xn ≤ 65535 := by have := (HXB.out i h1).2; omega
      have hx1 := (cell_old HS.out.k hxb0 (fun h => h) _).trans hx0
      rw [hxn] at hx1
      have HXC := hid hx1
      obtain ⟨_, ⟨hb, _⟩, _⟩ := St.get (St.pick HS.out 2 (by simp))
      have HBX := hid hb
      obtain ⟨p, hp⟩ : ∃ p, p = p13 t s g lm r K P L (rd X i) i := ⟨_, rfl⟩
      obtain ⟨T0, hT0⟩ : ∃ T, T = start12 p (Z i).1 (Z i).2.1 := ⟨_, rfl⟩
      have HPP := hid hp
      have HT0 := hid hT0
      have HP12 := hid (show P12OK p from by rw [hp]; exact HSET.out.ok (rd X i) i (by omega))
      have hok := HOK.out i (by omega)
      have HI0 := hid (show I12 p (1099511627776 + (i : Int) * 3145728000) T0 from by rw [hT0]; exact I12.start HP12.out (by rw [hp]; exact hok.1 _ _))
      have HL0 := hid (show T0.L.length ≤ 12000 from by rw [hT0]; exact Nat.le_trans hok.2 (by omega))
      have HNC := hid (fun (w' : World) (hk : Keep0 w10 w') => show Calls Tryz.prog 11 #[.agg #[i64 t, i64 (s : Int), i64 g, i64 lm, i64 r, i64 (K : Int), .slice (some ⟨pb, po, none⟩) P.length pc, .slice (some ⟨lb, lo, none⟩) L.length lc], i64 (leafN P xn : Nat), i64 ((xn : Int) % 20 + 1), i64 (i : Int)] w' (fun e w'' => ∃ y, e = .returned (ptr y) ∧ Nw (r12O p y T0) w' w'') from by
       have h := HN.out i w' (Z i).1 (Z i).2.1 (Keep0.step HS.out.k hk) (by omega)
       rw [← hp, ← hT0] at h
       have e1 : p.nd = leafN P xn := by rw [hp, hxn]; rfl
       have e2 : p.n = (xn : Int) % 20 + 1 := by rw [hp, hxn]; rfl
       rw [e1, e2] at h
       rw [hp] at h ⊢
       exact h)
      have HLFC := hid (fun (w' : World) (hk : Keep0 w10 w') => HLF.out xn w' (Keep0.step HS.out.k hk))
      have y1 : IntKind.i64.wrap (xn : Int) = (xn : Int) := IntWalk.i64_in _ (by omega)
      have y2 : (xn : Int).tmod 20 = (xn : Int) % 20 := Int.tmod_eq_emod_of_nonneg (by omega)
      have y3 : IntKind.i64.wrap ((xn : Int) % 20 + 1) = (xn : Int) % 20 + 1 := IntWalk.i64_in _ (by omega)
      clear hxc hx0 hx1 hb hp hT0 hok
      generalize leafN P xn = lv at *
      go_upto_region 6 with fail
      apply wp_region_free (WI := MK 18 19 (fun y => r12O p y T0) w10) (by kernel_rfl) (by kernel_rfl)
      case hob =>
       iterate 9
        apply ObligF.fixed
        case h =>
         intro S gh w1 hwi hSi hd hcl
         apply StepOk.intro
         intro K hK
         have qb := (hwi.1.blk HBX.out (fun h => h)).k14
         have qx := (cell_old hwi.1 hxz (fun h => h) _).trans HXC.out
         have hxz2 := Nat.lt_of_lt_of_le hxz hwi.1.size
         go_simp
         apply hK
         · rfl
         · conv => (lhs; whnf)
         · exact hwi.fixed (by decide)
        simp only [put_lit, put_none]
        try dsimp only [List.set_cons_succ, List.set_cons_zero]
       apply ObligF.fixed
       case h =>
        intro S gh w1 hwi hSi hd hcl
        apply StepOk.intro
        intro K hK
        have qb := (hwi.1.blk HBX.out (fun h => h)).k14
        have qx := (cell_old hwi.1 hxz (fun h => h) _).trans HXC.out
        have hxz2 := Nat.lt_of_lt_of_le hxz hwi.1.size
        go_simp
        refine (HLFC.out _ hwi.1).mono ?_
        rintro e w2 ⟨rfl, hk⟩
        apply hK
        · rfl
        · conv => (lhs; whnf)
        · exact (hwi.keep hk).fixed (by decide)
       simp only [put_lit, put_none]
       try dsimp only [List.set_cons_succ, List.set_cons_zero]
       iterate 8
        apply ObligF.fixed
        case h =>
         intro S gh w1 hwi hSi hd hcl
         apply StepOk.intro
         intro K hK
         have qb := (hwi.1.blk HBX.out (fun h => h)).k14
         have qx := (cell_old hwi.1 hxz (fun h => h) _).trans HXC.out
         have hxz2 := Nat.lt_of_lt_of_le hxz hwi.1.size
         go_simp
         apply hK
         · rfl
         · conv => (lhs; whnf)
         · exact hwi.fixed (by decide)
        simp only [put_lit, put_none]
        try dsimp only [List.set_cons_succ, List.set_cons_zero]
       apply ObligF.free
       case h =>
        intro S gh w1 hwi hSi hd hcl
        apply StepG.intro
        intro K hK
        have qb := (hwi.1.blk HBX.out (fun h => h)).k14
        have qx := (cell_old hwi.1 hxz (fun h => h) _).trans HXC.out
        have hxz2 := Nat.lt_of_lt_of_le hxz hwi.1.size
        go_simp
        refine Calls.mono (HNC.out _ hwi.1) ?_
        rintro e w2 ⟨yn, rfl, hn⟩
        apply hK
        · rfl
        · exact hwi.made (by decide) yn hn
       simp only [put_lit, put_none]
       try dsimp only [List.set_cons_succ, List.set_cons_zero]
       apply ObligF.free
       case h =>
        intro S gh w1 hwi hSi hd hcl
        apply StepG.intro
        intro K hK
        have h9 := hd ⟨18, .data⟩ (by simp) rfl
        go_simp
        apply hK
        · rfl
        · exact hwi.hand (by decide) h9
       simp only [put_lit, put_none]
       try dsimp only [List.set_cons_succ, List.set_cons_zero]
       exact ObligF.nil
      case h0 =>
       exact MK.start (Keep.refl _ _).drew
      case hend =>
       intro S gh wx hwi hall
       obtain ⟨y, e1, hn⟩ := hwi.2.2 (hall 19 (by decide))
       obtain ⟨w11, rfl⟩ : ∃ v, v = wx := ⟨_, rfl⟩
       have hs := St.nw HS.out hn
       clear hwi hall HS hn HBX HXC
       have HS := hid hs
       clear hs
       rw [e1]
       clear e1
       obtain ⟨G, hG⟩ : ∃ G : Nat → S12, G = go12 p T0 := ⟨_, rfl⟩
       have HG0 := hid (show G 0 = T0 from by rw [hG]; rfl)
       have HGN := hid (show ∀ k, G (k + 1) = n12 p (G k) from by rw [hG]; exact fun _ => rfl)
       have HGI := hid (show ∀ k : Nat, k ≤ 3000 → I12 p (1099511627776 + (i : Int) * 3145728000 + (k : Int) * 1048576) (G k) from by rw [hG]; exact fun k hk => go12_I HP12.out HI0.out k (by omega))
       have HGL := hid (show ∀ k : Nat, k ≤ 3000 → (G k).L.length ≤ 15000 from by rw [hG]; exact fun k hk => Nat.le_trans (go12_L HP12.out HI0.out k (by omega)) (by have := HL0.out; omega))
       have HGE := hid (show ∀ k, (G k).ph = 6 ∨ k = M → k ≤ M → G M = G k from by rw [hG]; exact fun k h hk => go12_end h hk)
       have HZG := hid (show Z (i + 1) = ((G M).W, (G M).L, if (G M).ph = 6 ∧ (G M).err = 0 then (Z i).2.2 ++ [(G M).on] else (Z i).2.2) from by rw [HZS.out, hG, HT0.out, HPP.out])
       clear hG
       obtain rfl : M = 3000 := HMM.out
       have HS' := hid (show St w [r12O p y (G 0), refO B m (G 0).W (G 0).L, rowO 3 1 (.slice A (Z i).2.2.length c) (Z i).2.2.length (ints (Z i).2.2), Ass.blk ab 31 [i64 t, i64 (s : Int), i64 g, i64 lm, i64 r, i64 (K : Int), .slice (some ⟨pb, po, none⟩) P.length pc, .slice (some ⟨lb, lo, none⟩) L.length lc, .int .u8 (lf : Int), .int .u32 nn, .int .u16 th, .slice BA nb bc, .slice VA V.length vc, .slice KA nk kc]] w11 from by rw [HG0.out, show T0.W = (Z i).1 from by rw [HT0.out]; rfl, show T0.L = (Z i).2.1 from by rw [HT0.out]; rfl]; exact St.perm HS.out ((List.Perm.swap _ _ _).cons _))
       clear HS
       have HS := HS'
       clear HS'
       have HD0 := hid (show Value.bool false = Value.bool (decide ((G 0).ph = 6)) from by rw [HG0.out, HT0.out]; rfl)
       go_wp2_with fail
       go_loopw [10, 11] (fun v10 v11 wr => ∃ k : Nat, k ≤ 3000 ∧ v11 = .int .i64 k ∧ v10 = .bool (decide ((G k).ph = 6)) ∧ St w [r12O p y (G k), refO B m (G k).W (G k).L, rowO 3 1 (.slice A (Z i).2.2.length c) (Z i).2.2.length (ints (Z i).2.2), Ass.blk ab 31 [i64 t, i64 (s : Int), i64 g, i64 lm, i64 r, i64 (K : Int), .slice (some ⟨pb, po, none⟩) P.length pc, .slice (some ⟨lb, lo, none⟩) L.length lc, .int .u8 (lf : Int), .int .u32 nn, .int .u16 th, .slice BA nb bc, .slice VA V.length vc, .slice KA nk kc]] wr) (fun _ x _ => 3000 - (intOf x).toNat)
       case atStart => exact ⟨0, Nat.zero_le _, rfl, HD0.out, HS.out⟩
       case round =>
        obtain ⟨k, hkM, rfl, rfl, hs2⟩ := hrel
        obtain ⟨w20, rfl⟩ : ∃ v, v = wr := ⟨_, rfl⟩
        clear HS
        have HS := hid hs2
        clear hs2
        generalize hd : decide ((G k).ph = 6) = d
        cases d with
        | true =>
         have HPH := hid (of_decide_eq_true hd)
         clear hd
         have hs3 := St.perm HS.out ((List.Perm.swap _ _ _).cons _)
         clear HS
         have HS := hid hs3
         clear hs3
         by_cases h5 : k < 3000
         · obtain ⟨_, hy, _⟩ := St.get HS.out
           have HA := hid (fun (w' : World) (hk : Keep0 w20 w') => r12O_Ans ((r12O p y (G k)).st hy hk (fun _ _ h => h)) HPH.out)
           clear hy
           go_wp2_with fail
           refine (HA.out w20 (Keep.refl _ _)).mono ?_
           rintro e w12 ⟨rfl, hk⟩
           have HK12 := hid hk
           have hs := St.keep HS.out hk
           clear hk HS
           have HS := hid hs
           clear hs
           by_cases he : (G k).err = 0
           · have HZ9 := hid (show Z (i + 1) = ((G k).W, (G k).L, (Z i).2.2 ++ [(G k).on]) from by rw [HZG.out, HGE.out k (Or.inl HPH.out) (by omega), if_pos ⟨HPH.out, he⟩])
             generalize (G k).err = er at *
             subst he
             go_wp2_with fail
             refine (HA.out w12 HK12.out).mono ?_
             rintro e w13 ⟨rfl, hk⟩
             have hs := St.drop (St.keep HS.out hk)
             clear hk HS HA HK12
             have HS := hid hs
             clear hs
             obtain ⟨_, ⟨ho, _⟩, _⟩ := St.get HS.out
             have HR := hid ho
             have hzh := HZH.out i
             obtain ⟨n0, hn0⟩ : ∃ n, n = (Z i).2.2.length := ⟨_, rfl⟩
             obtain ⟨xs0, hxs⟩ : ∃ x, x = ints (Z i).2.2 := ⟨_, rfl⟩
             obtain ⟨on, hon⟩ : ∃ x, x = (G k).on := ⟨_, rfl⟩
             rw [← hn0, ← hxs] at HR
             rw [← hn0, ← hon]
             have HN0 := hid hn0
             have HXS := hid hxs
             have HON := hid hon
             have hnb : n0 ≤ 1000 := by omega
             clear hn0 hxs hon ho hzh
             go_upto_region 5 with (at_builtin; refine wpl_append_own ?a1 (.tmp 63) (.tmp 67) 22 ?a2 (0) 3 i0 ?z 1 8 ?a3 ?a4 ?a5 ?a6 ?a7 ?a8 ?a9 (.slice A n0 c) (n0) (xs0) ?a10 ?hown (⟨w13.heap.size, 0, none⟩) (1) (1) ([i64 on]) ?a11 ?a12 ?hnews ?hone ?h63 ?hby ?hbase ?_; (case a1 => rfl); (case a2 => rfl); (case a3 => exact Tryz.underlying22); (case a4 => exact HI.out); (case a5 => exact hz0); (case a6 => exact hz1); (case a7 => exact hz2); (case a8 => rfl); (case a9 => decide); (case a10 => rfl); (case a11 => rfl); (case a12 => rfl); (case hown => exact ownsRow_keep (S := fun _ => False) HR.out (by repeat (with_reducible first | exact Keep.refl _ _ | apply Keep.alloc | apply Keep.drew)) (fun _ _ h => h)); (case h63 => unfold maxLen; omega); (case hby => omega); (case hnews => exact news_at (Blk.made (by simp) rfl)); (case hone => simp [Value.oneCell']); (case hbase => omega); intro A9 c9' w9 hown9 hg9 hsl9; have HS9 := hid (St.tr HS.out (fun R hr => rowO_app (by rw [← HN0.out, ← HXS.out] at hr; exact hr) ((Keep.refl _ _).alloc _) hown9 hg9 hsl9.1)); clear hown9 hg9 hsl9)
             go_wp2_with fail
             go_roundw
             case rel =>
              refine ⟨i + 1, A9, c9', by omega, by go_num, by rw [HZ9.out]; simp only [List.length_append, HN0.out]; rfl, ?_⟩
              have h := HS9.out
              have e1 : ((Z i).2.2 ++ [(G k).on]).length = n0 + 1 := by rw [List.length_append, HN0.out]; rfl
              have e2 : ints ((Z i).2.2 ++ [(G k).on]) = xs0 ++ [i64 on] := by rw [ints_snocT, HXS.out, HON.out]
              rw [HZ9.out]
              dsimp only
              rw [e1, e2]
              exact h
             case measure => simp [intOf]; omega
           · have HZ9 := hid (show Z (i + 1) = ((G k).W, (G k).L, (Z i).2.2) from by rw [HZG.out, HGE.out k (Or.inl HPH.out) (by omega), if_neg (fun h => he h.2)])
             have g5 : ((G k).err == 0) = false := beq_eq_false_iff_ne.2 he
             go_wp2_with fail
             go_roundw
             case rel => exact ⟨i + 1, A, c, by omega, by go_num, by rw [HZ9.out], by rw [HZ9.out]; exact St.drop HS.out⟩
             case measure => simp [intOf]; omega
         · obtain ⟨_, hy, _⟩ := St.get HS.out
           have HA := hid (fun (w' : World) (hk : Keep0 w20 w') => r12O_Ans ((r12O p y (G k)).st hy hk (fun _ _ h => h)) HPH.out)
           clear hy
           go_wp2_with fail
           refine (HA.out w20 (Keep.refl _ _)).mono ?_
           rintro e w12 ⟨rfl, hk⟩
           have HK12 := hid hk
           have hs := St.keep HS.out hk
           clear hk HS
           have HS := hid hs
           clear hs
           by_cases he : (G k).err = 0
           · have HZ9 := hid (show Z (i + 1) = ((G k).W, (G k).L, (Z i).2.2 ++ [(G k).on]) from by rw [HZG.out, HGE.out k (Or.inl HPH.out) (by omega), if_pos ⟨HPH.out, he⟩])
             generalize (G k).err = er at *
             subst he
             go_wp2_with fail
             refine (HA.out w12 HK12.out).mono ?_
             rintro e w13 ⟨rfl, hk⟩
             have hs := St.drop (St.keep HS.out hk)
             clear hk HS HA HK12
             have HS := hid hs
             clear hs
             obtain ⟨_, ⟨ho, _⟩, _⟩ := St.get HS.out
             have HR := hid ho
             have hzh := HZH.out i
             obtain ⟨n0, hn0⟩ : ∃ n, n = (Z i).2.2.length := ⟨_, rfl⟩
             obtain ⟨xs0, hxs⟩ : ∃ x, x = ints (Z i).2.2 := ⟨_, rfl⟩
             obtain ⟨on, hon⟩ : ∃ x, x = (G k).on := ⟨_, rfl⟩
             rw [← hn0, ← hxs] at HR
             rw [← hn0, ← hon]
             have HN0 := hid hn0
             have HXS := hid hxs
             have HON := hid hon
             have hnb : n0 ≤ 1000 := by omega
             clear hn0 hxs hon ho hzh
             go_upto_region 5 with (at_builtin; refine wpl_append_own ?a1 (.tmp 63) (.tmp 67) 22 ?a2 (0) 3 i0 ?z 1 8 ?a3 ?a4 ?a5 ?a6 ?a7 ?a8 ?a9 (.slice A n0 c) (n0) (xs0) ?a10 ?hown (⟨w13.heap.size, 0, none⟩) (1) (1) ([i64 on]) ?a11 ?a12 ?hnews ?hone ?h63 ?hby ?hbase ?_; (case a1 => rfl); (case a2 => rfl); (case a3 => exact Tryz.underlying22); (case a4 => exact HI.out); (case a5 => exact hz0); (case a6 => exact hz1); (case a7 => exact hz2); (case a8 => rfl); (case a9 => decide); (case a10 => rfl); (case a11 => rfl); (case a12 => rfl); (case hown => exact ownsRow_keep (S := fun _ => False) HR.out (by repeat (with_reducible first | exact Keep.refl _ _ | apply Keep.alloc | apply Keep.drew)) (fun _ _ h => h)); (case h63 => unfold maxLen; omega); (case hby => omega); (case hnews => exact news_at (Blk.made (by simp) rfl)); (case hone => simp [Value.oneCell']); (case hbase => omega); intro A9 c9' w9 hown9 hg9 hsl9; have HS9 := hid (St.tr HS.out (fun R hr => rowO_app (by rw [← HN0.out, ← HXS.out] at hr; exact hr) ((Keep.refl _ _).alloc _) hown9 hg9 hsl9.1)); clear hown9 hg9 hsl9)
             go_wp2_with fail
             go_roundw
             case rel =>
              refine ⟨i + 1, A9, c9', by omega, by go_num, by rw [HZ9.out]; simp only [List.length_append, HN0.out]; rfl, ?_⟩
              have h := HS9.out
              have e1 : ((Z i).2.2 ++ [(G k).on]).length = n0 + 1 := by rw [List.length_append, HN0.out]; rfl
              have e2 : ints ((Z i).2.2 ++ [(G k).on]) = xs0 ++ [i64 on] := by rw [ints_snocT, HXS.out, HON.out]
              rw [HZ9.out]
              dsimp only
              rw [e1, e2]
              exact h
             case measure => simp [intOf]; omega
           · have HZ9 := hid (show Z (i + 1) = ((G k).W, (G k).L, (Z i).2.2) from by rw [HZG.out, HGE.out k (Or.inl HPH.out) (by omega), if_neg (fun h => he h.2)])
             have g5 : ((G k).err == 0) = false := beq_eq_false_iff_ne.2 he
             go_wp2_with fail
             go_roundw
             case rel => exact ⟨i + 1, A, c, by omega, by go_num, by rw [HZ9.out], by rw [HZ9.out]; exact St.drop HS.out⟩
             case measure => simp [intOf]; omega
        | false =>
         have HPH := hid (of_decide_eq_false hd)
         clear hd
         by_cases h5 : k < 3000
         · have HSTP := hid (fun R h => r12_Step (B := B) (m := m) (y := y) (R := R) (w := w20) HP12.out (HGI.out k hkM) (by omega) (by have := HGL.out k hkM; omega) h)
           go_wp2_with fail
           refine Calls.mono (St.call (q := (refO B m (n12 p (G k)).W (n12 p (G k)).L).star (r12O p y (n12 p (G k)))) (St.pair (St.pick HS.out 1 (by simp))) (fun Rq hr hz => HSTP.out Rq hr)) ?_
           rintro e w21 ⟨rfl, hs⟩
           have hs3 := St.part hs
           rw [← HGN.out] at hs3
           have HS3 := hid (St.perm hs3 (List.Perm.swap _ _ _))
           have HST := hid (show Value.bool (stp12 p (G k)).2 = Value.bool (decide ((G (k + 1)).ph = 6)) from by rw [HGN.out]; rfl)
           clear hs hs3 HS HSTP
           generalize (stp12 p (G k)).2 = sb at *
           go_wp2_with fail
           go_roundw
           case rel => exact ⟨k + 1, by omega, by go_num, HST.out, HS3.out⟩
           case measure => simp [intOf]; omega
         · obtain rfl : k = 3000 := by omega
           have HZ9 := hid (show Z (i + 1) = ((G 3000).W, (G 3000).L, (Z i).2.2) from by rw [HZG.out, if_neg (fun h => HPH.out h.1)])
           have hs3 := St.perm HS.out ((List.Perm.swap _ _ _).cons _)
           clear HS
           have HS := hid hs3
           clear hs3
           go_wp2_with fail
           go_roundw
           case rel => exact ⟨i + 1, A, c, by omega, by go_num, by rw [HZ9.out], by rw [HZ9.out]; exact St.drop HS.out⟩
           case measure => simp [intOf]; omega
    · have e1 : (i < X.length) = True := eq_true h1
      have e2 : (i < 4) = False := eq_false h2
      have hin := hid (show i = min X.length 4 from by omega)
      have hwl : (Z i).1.length = q + 2 * K := by have h := ((HOK.out i (by omega)).1 0 0).ln; rw [HQ.out]; exact h
      obtain ⟨wb2, c2, lv2, hm2, hc2, hs9⟩ := St.wordsK (St.pick HS.out 1 (by simp)) (by omega)
      rw [hwl] at hm2 hc2
      have qm := hm2.k2
      have HS9 := hid hs9
      have HC2 := hid hc2
      skip
      clear hm2 hs9 hc2 HS hwl
      go_wp2_with fail
      go_ret2
      exact ⟨((wb2, c2), (A, c)), ⟨by rw [← hin.out]; rfl, HC2.out⟩, by rw [← hin.out]; exact nw_one (St.out (St.head (St.pair HS9.out)))⟩
  · have e1 : (i < X.length) = False := eq_false h1
    have hin := hid (show i = min X.length 4 from by omega)
    have hwl : (Z i).1.length = q + 2 * K := by have h := ((HOK.out i (by omega)).1 0 0).ln; rw [HQ.out]; exact h
    obtain ⟨wb2, c2, lv2, hm2, hc2, hs9⟩ := St.wordsK (St.pick HS.out 1 (by simp)) (by omega)
    rw [hwl] at hm2 hc2
    have qm := hm2.k2
    have HS9 := hid hs9
    have HC2 := hid hc2
    skip
    clear hm2 hs9 hc2 HS hwl
    go_wp2_with fail
    go_ret2
    exact ⟨((wb2, c2), (A, c)), ⟨by rw [← hin.out]; rfl, HC2.out⟩, by rw [← hin.out]; exact nw_one (St.out (St.head (St.pair HS9.out)))⟩
end Go.Proofs.YthaceckccobgeaaGreat

namespace Go.Proofs.YthaceckccobgeaaGreat
open Go.ChangeShapes Go.WideShapes Go.ChangeAt Go.RowKit Go.Deep
set_option linter.unusedVariables false
set_option linter.unusedSimpArgs false
set_option maxRecDepth 100000
def AskIn (w : World) (v : Value) : Prop := ∃ (t s g l r k : Int) (P L : List Int) (PA : Option Addr) (pc : Nat) (LA : Option Addr) (lc : Nat) (lf nn th : Int) (BA : Option Addr) (nb bc : Nat) (f : Nat → Bool) (VA : Option Addr) (V : List Int) (vc : Nat) (Q : List Pk) (KA : Option Addr) (kc : Nat),
 v = .agg #[i64 t, i64 s, i64 g, i64 l, i64 r, i64 k, .slice PA P.length pc, .slice LA L.length lc, .int .u8 lf, .int .u32 nn, .int .u16 th, .slice BA nb bc, .slice VA V.length vc, .slice KA Q.length kc] ∧
 IntsAt w PA P ∧ IntsAt w LA L ∧ P.length ≤ 9223372036854775807 ∧ L.length ≤ 9223372036854775807 ∧ (0 ≤ lf ∧ lf ≤ 255) ∧ (0 ≤ nn ∧ nn ≤ 4294967295) ∧ (0 ≤ th ∧ th ≤ 65535) ∧
 BsAt w BA nb f ∧ nb ≤ 9223372036854775807 ∧ U32At w VA V ∧ V.length ≤ 9223372036854775807 ∧ (∀ i, i < V.length → 0 ≤ rd V i ∧ rd V i ≤ 4294967295) ∧ pksAt w KA Q ∧ Q.length ≤ 9223372036854775807
def U16R (w : World) (v : Value) : Prop := ∃ (A : Option Addr) (l : List Int) (c : Nat), v = .slice A l.length c ∧ l.length ≤ 9223372036854775807 ∧ U16At w A l ∧ (∀ i, i < l.length → 0 ≤ rd l i ∧ rd l i ≤ 65535)
section
variable {H : Type} {enc : TypeId × Value → H} {w : World} {base : Nat}
theorem bs_cells {fuel : Nat} {cs : List Value} {x : DataW H × List MemPlace} (h : DataW.trod enc Tryz.prog w base (fun _ => true) true fuel 27 cs = some x) :
 ∃ A n f c, cs = [.slice A n c] ∧ n ≤ 9223372036854775807 ∧ BsAt w A n f := by
 rcases open_bools Tryz.underlying27 Tryz.underlying4 (by kernel_rfl) h with ⟨hcs, _⟩ | ⟨a, len, cap, f, hcs, _, hl, hm, _, hcell⟩
 · exact ⟨none, 0, fun _ => false, 0, hcs, by simp, Or.inl rfl⟩
 · refine ⟨some a, len, f, cap, hcs, by unfold maxLen at hm; omega, ?_⟩
   by_cases h0 : len = 0
   · exact Or.inl h0
   · right
     have hc0 := hcell 0 (by omega)
     have hsp : a.spot = none := by
      unfold World.cell? at hc0
      cases hs : a.spot with
      | none => rfl
      | some x => simp [Addr.add, hs] at hc0; split at hc0 <;> simp_all
     obtain ⟨b, o, sp⟩ := a
     simp only at hsp
     subst hsp
     refine ⟨b, o, rfl, fun i hi => ?_⟩
     have hc := hcell i (by omega)
     have e : (⟨b, o, none⟩ : Addr).add i = ⟨b, o + i, none⟩ := by unfold Addr.add; split <;> simp_all
     rw [e] at hc
     exact hc
theorem u16r_open {r0 : Reach} {b0 : Nat} {v : Value} {d : DataW H} {p : List MemPlace} (hv : Value.okWide Tryz.prog w r0 b0 32 v) (h0 : DataW.Trod enc Tryz.prog w base (fun _ => true) true 32 v d p) : U16R w v := by
 obtain ⟨A, n, c, rfl⟩ := okWide_slice Tryz.underlying32 hv
 obtain ⟨fuel, h⟩ := h0
 rcases open_ints Tryz.underlying32 Tryz.underlying26 (by kernel_rfl) h with ⟨hcs, _⟩ | ⟨a, len, cap, zs, hcs, _, hl, hm, hz, _, hcell, hwf⟩
 · simp only [Value.cells, List.cons.injEq, and_true] at hcs
   cases hcs
   exact ⟨none, [], 0, rfl, by simp, Or.inl rfl, by simp⟩
 · simp only [Value.cells, List.cons.injEq, and_true] at hcs
   obtain ⟨rfl, rfl, rfl⟩ : A = some a ∧ n = len ∧ c = cap := by cases hcs; exact ⟨rfl, rfl, rfl⟩
   simp only [if_true] at hz
   have hlen : (zs.take n).length = n := by rw [List.length_take]; omega
   refine ⟨some a, zs.take n, c, by rw [hlen], by rw [hlen]; unfold maxLen at hm; omega, ?_, ?_⟩
   · by_cases h0 : n = 0
     · left; subst h0; rfl
     · right
       have hc0 := hcell 0 (by omega)
       have hsp : a.spot = none := by
        unfold World.cell? at hc0
        cases hs : a.spot with
        | none => rfl
        | some x => simp [Addr.add, hs] at hc0; split at hc0 <;> simp_all
       obtain ⟨b, o, sp⟩ := a
       simp only at hsp
       subst hsp
       refine ⟨b, o, rfl, fun i hi => ?_⟩
       rw [hlen] at hi
       have hc := hcell i (by omega)
       have e : (⟨b, o, none⟩ : Addr).add i = ⟨b, o + i, none⟩ := by unfold Addr.add; split <;> simp_all
       rw [e] at hc
       rw [hc]
       simp [rd, List.getD, List.getElem?_take, hi]
   · intro i hi
     rw [hlen] at hi
     have e : rd (zs.take n) i = zs[i]'(by omega) := by simp [rd, List.getD, List.getElem?_take, hi]; rw [List.getElem?_eq_getElem (by omega)]; rfl
     rw [e]
     exact bounds_u16 (hwf _ (List.getElem_mem _))
theorem ask_open {r0 : Reach} {b0 : Nat} {v : Value} {d : DataW H} {p : List MemPlace} (hv : Value.okWide Tryz.prog w r0 b0 31 v) (h0 : DataW.Trod enc Tryz.prog w base (fun _ => true) true 31 v d p) : AskIn w v := by
 obtain ⟨cs, rfl, hsz⟩ := okWide_struct Tryz.underlying31 hv
 obtain ⟨fuel, h⟩ := h0
 obtain ⟨xs, n, _, _, hlen, hxl, hf⟩ := DataW.trod_struct Tryz.underlying31 h
 have hs14 : cs.size = 14 := hsz.trans (by kernel_rfl)
 obtain ⟨cs⟩ := cs
 simp only [Value.cells] at *
 obtain ⟨c0, c1, c2, c3, c4, c5, c6, c7, c8, c9, c10, c11, c12, c13, rfl⟩ : ∃ c0 c1 c2 c3 c4 c5 c6 c7 c8 c9 c10 c11 c12 c13, cs = [c0, c1, c2, c3, c4, c5, c6, c7, c8, c9, c10, c11, c12, c13] := by
  match cs, hs14 with
  | [c0, c1, c2, c3, c4, c5, c6, c7, c8, c9, c10, c11, c12, c13], _ => exact ⟨_, _, _, _, _, _, _, _, _, _, _, _, _, _, rfl⟩
 obtain ⟨y0, y1, y2, y3, y4, y5, y6, rfl⟩ : ∃ y0 y1 y2 y3 y4 y5 y6, xs = [y0, y1, y2, y3, y4, y5, y6] := by
  match xs, hxl with
  | [c0, c1, c2, c3, c4, c5, c6], _ => exact ⟨_, _, _, _, _, _, _, rfl⟩
 have z0 : Tryz.prog.cellsOf 24 = 8 := by kernel_rfl
 have z1 : Tryz.prog.cellsOf 5 = 1 := by kernel_rfl
 have z2 : Tryz.prog.cellsOf 25 = 1 := by kernel_rfl
 have z5 : Tryz.prog.cellsOf 26 = 1 := by kernel_rfl
 have z6 : Tryz.prog.cellsOf 27 = 1 := by kernel_rfl
 have z3 : Tryz.prog.cellsOf 28 = 1 := by kernel_rfl
 have z4 : Tryz.prog.cellsOf 29 = 1 := by kernel_rfl
 have f0 := hf 0 _ rfl
 have f1 := hf 1 _ rfl
 have f2 := hf 2 _ rfl
 have f3 := hf 3 _ rfl
 have f4 := hf 4 _ rfl
 have f5 := hf 5 _ rfl
 have f6 := hf 6 _ rfl
 simp [z0, z1, z2, z3, z4, z5, z6] at f0 f1 f2 f3 f4 f5 f6
 obtain ⟨t, s, g, l, r, k, P, L, PA, pc, LA, lc, e0, hP, hL, hp1, hl1⟩ := conf_cells f0
 obtain ⟨lf, e1, _, w1⟩ := DataW.trod_int Tryz.underlying5 f1
 obtain ⟨nn, e2, _, w2⟩ := DataW.trod_int Tryz.underlying25 f2
 obtain ⟨th, e3, _, w3⟩ := DataW.trod_int Tryz.underlying26 f3
 obtain ⟨BA, nb, f, bc, e4, hb1, hB⟩ := bs_cells f4
 obtain ⟨VA, V, vc, e5, hq1, hQ, hq2⟩ := u32s_cells f5
 obtain ⟨KA, Q, kc, e6, hk1, hK⟩ := pks_cells f6
 simp only [List.cons.injEq, and_true] at e0 e1 e2 e3 e4 e5 e6
 obtain ⟨rfl, rfl, rfl, rfl, rfl, rfl, rfl, rfl⟩ := e0
 subst e1 e2 e3 e4 e5 e6
 exact ⟨t, s, g, l, r, k, P, L, PA, pc, LA, lc, lf, nn, th, BA, nb, bc, f, VA, V, vc, Q, KA, kc, rfl, hP, hL, hp1, hl1, bounds_u8 w1, bounds_u32 w2, bounds_u16 w3, hB, hb1, hQ, hq1, hq2, hK, hk1⟩
end
end Go.Proofs.YthaceckccobgeaaGreat

namespace Go.Proofs.YthaceckccobgeaaGreat
open Go.RowKit
set_option linter.unusedVariables false
set_option linter.unusedSimpArgs false
def own12 (p : P12) (t : S12) (u : Nat) : Int :=
 if t.ph = 0 then 0
 else if t.ph = 1 then (if u ∈ p.path.take t.at_ then -p.n else 0) + (if u = p.v t.at_ then pOwn p.n t.po else 0)
 else if t.ph = 2 then (if u ∈ p.path.take t.at_ then -p.n else 0)
 else if t.ph = 6 then (if t.err = 0 ∧ u ∈ p.path then -p.n else 0)
 else (if u ∈ p.path then -p.n else 0)
def ownU (p : P12) (u : Nat) (a : Acc) : Int := if (p.av u : Int) ≤ a.w ∧ a.w < (p.ct u : Int) then ownD a else 0
section
variable {p : P12} {X : Int} {t : S12}
theorem leftN_congr (W W' : List Int) (av : Nat) : ∀ s, (∀ j, av ≤ j → j ≤ av + s → rd W' j = rd W j) → leftN W' av s = leftN W av s
 | 0, h => by rw [leftN, leftN]; exact h av (Nat.le_refl _) (by omega)
 | s + 1, h => by rw [leftN, leftN, leftN_congr W W' av s (fun j h1 h2 => h j h1 (by omega)), h (av + 1 + s) (by omega) (by omega)]
theorem av_ctlt (hs : 1 ≤ p.s) (u : Nat) : p.av u + 1 + p.s = p.ct u := by unfold P12.av P12.ct; omega
theorem pool_out {u : Nat} {i : Nat} (hi : p.q ≤ i) (hu : u < p.P.length) : ¬ ((p.av u : Int) ≤ (i : Int) ∧ (i : Int) < (p.ct u : Int)) := by
 have h1 : (u + 1) * (6 + 2 * p.s) ≤ p.P.length * (6 + 2 * p.s) := Nat.mul_le_mul_right _ hu
 rw [Nat.add_mul, Nat.one_mul] at h1
 unfold P12.ct P12.q at *
 omega
theorem pool_apart {u v i : Nat} (hi : i < 6 + 2 * p.s) (h : u ≠ v) : ¬ ((p.av u : Int) ≤ ((v * (6 + 2 * p.s) + i : Nat) : Int) ∧ ((v * (6 + 2 * p.s) + i : Nat) : Int) < (p.ct u : Int)) := by
 unfold P12.av P12.ct
 rintro ⟨h1, h2⟩
 by_cases huv : u < v
 · have h3 : (u + 1) * (6 + 2 * p.s) ≤ v * (6 + 2 * p.s) := Nat.mul_le_mul_right _ huv
   rw [Nat.add_mul, Nat.one_mul] at h3
   omega
 · have h3 : (v + 1) * (6 + 2 * p.s) ≤ u * (6 + 2 * p.s) := Nat.mul_le_mul_right _ (by omega)
   rw [Nat.add_mul, Nat.one_mul] at h3
   omega
theorem pool_ct {u v i : Nat} (h0 : p.ct v ≤ i) (h1 : i < p.ct v + 4 + p.s) : ¬ ((p.av u : Int) ≤ (i : Int) ∧ (i : Int) < (p.ct u : Int)) := by
 obtain ⟨d, hd⟩ : ∃ d, i = v * (6 + 2 * p.s) + (2 + p.s + d) := ⟨i - p.ct v, by unfold P12.ct at *; omega⟩
 by_cases e : u = v
 · subst e; unfold P12.ct P12.av at *; omega
 · rw [hd]
   exact pool_apart (by unfold P12.ct at *; omega) e
theorem take_mem {l : List Nat} {i u : Nat} (hi : i < l.length) : u ∈ l.take (i + 1) ↔ u ∈ l.take i ∨ u = l[i] := by
 rw [List.take_succ_eq_append_getElem hi, List.mem_append, List.mem_singleton]
theorem nodup_take {l : List Nat} (hn : l.Nodup) {i : Nat} (hi : i < l.length) : l[i] ∉ l.take i := by
 intro h
 obtain ⟨j, hj, e⟩ := List.getElem_of_mem h
 rw [List.getElem_take] at e
 rw [List.length_take] at hj
 have h2 := (List.getElem_inj hn).1 e
 omega
theorem v_eq {i : Nat} (hi : i < p.path.length) : p.v i = p.path[i] := by simp [P12.v, hi]
theorem cNext_acc {K s q : Nat} (c : CS) (h : c.fin = 0) : ∃ a, (cNext K s q c).L = c.L ++ [a] ∧ a.w = ((q + 2 * ck K s c.j : Nat) : Int) ∧ (a.kind = 1 ∨ a.kind = 3) ∧ (∀ j, j ≠ q + 2 * ck K s c.j → rd (cNext K s q c).W j = rd c.W j) := by
 unfold cNext
 rw [if_pos h]
 split
 · split
   · exact ⟨_, rfl, rfl, Or.inl rfl, fun j hj => rfl⟩
   · exact ⟨_, rfl, rfl, Or.inl rfl, fun j hj => rfl⟩
 · split
   · exact ⟨_, rfl, rfl, Or.inr rfl, fun j hj => casW_rd _ _ _ _ _ (Ne.symm hj)⟩
   · exact ⟨_, rfl, rfl, Or.inr rfl, fun j hj => casW_rd _ _ _ _ _ (Ne.symm hj)⟩
theorem aNext_acc {b s : Nat} {g d : Int} {x : AS} (h : AInv b s g d x) (h9 : x.st ≠ 9) : ∃ a, (aNext b s g d x).L = x.L ++ [a] ∧ (b : Int) ≤ a.w ∧ a.w < ((b + 4 + s : Nat) : Int) := by
 obtain ⟨W, L, st, x, lv, sp, w, v⟩ := x
 obtain ⟨ln, wl, s1, g1, d1, lw, xb, nx, lb, pb, vb, gr⟩ := h
 simp only at *
 have hs : (1 : Int) ≤ s := by unfold p2 at s1; omega
 have aM : ∀ (y : AS), (aMiss s y).L = y.L := fun y => by unfold aMiss; split <;> rfl
 have pb' : st ≠ 0 → b + 4 ≤ sp ∧ sp < b + 4 + s := fun h0 => pb (by omega) (by omega)
 rcases st_cases nx with rfl | rfl | rfl | rfl | rfl | rfl | rfl | rfl | rfl | rfl
 · exact ⟨_, rfl, by simp only; omega, by simp only; omega⟩
 · have := pb' (by decide)
   exact ⟨_, rfl, by simp only; omega, by simp only; omega⟩
 · have := pb' (by decide)
   refine ⟨⟨3, sp, w, pNext6 w v, rd W sp == w⟩, ?_, by simp only; omega, by simp only; omega⟩
   simp only [aNext]
   split
   · rfl
   · rw [aM]
 · exact ⟨_, rfl, by simp only; omega, by simp only; omega⟩
 · have := pb' (by decide)
   exact ⟨_, rfl, by simp only; omega, by simp only; omega⟩
 · exact ⟨_, rfl, by simp only; omega, by simp only; omega⟩
 · exact ⟨_, rfl, by simp only; omega, by simp only; omega⟩
 · exact ⟨⟨2, (b + 2 : Nat), 1, wrap64 (rd W (b + 2) + 1), false⟩, by simp only [aNext]; rw [aM], by simp only; omega, by simp only; omega⟩
 · exact ⟨_, rfl, by simp only; omega, by simp only; omega⟩
 · exact absurd rfl h9
theorem ownU_out {u : Nat} {a : Acc} (h : ¬ ((p.av u : Int) ≤ a.w ∧ a.w < (p.ct u : Int))) : ownU p u a = 0 := if_neg h
theorem ownU_ct {u v : Nat} {a : Acc} (h0 : (p.ct v : Int) ≤ a.w) (h1 : a.w < ((p.ct v + 4 + p.s : Nat) : Int)) : ownU p u a = 0 := by
 obtain ⟨i, hi⟩ : ∃ i : Nat, a.w = (i : Int) := ⟨a.w.toNat, by omega⟩
 rw [hi] at h0 h1
 refine ownU_out ?_
 rw [hi]
 exact pool_ct (v := v) (by omega) (by omega)
theorem ownU_own {v : Nat} {a : Acc} (hp : P12OK p) (hw : a.w = (p.av v : Int) ∨ a.w = (p.le v p.u : Int)) : ownU p v a = ownD a := by
 have hs := hp.s8
 have hu := hp.u1
 refine if_pos ?_
 unfold P12.av P12.le P12.ct at *
 omega
theorem ownU_other {u v : Nat} {a : Acc} (hp : P12OK p) (hw : a.w = (p.av v : Int) ∨ a.w = (p.le v p.u : Int)) (h : u ≠ v) : ownU p u a = 0 := by
 have hs := hp.s8
 have hu := hp.u1
 refine ownU_out ?_
 rcases hw with e | e
 · rw [e]; exact pool_apart (i := 1) (by omega) h
 · rw [e]
   have := pool_apart (p := p) (i := 2 + p.u) (by omega) h
   unfold P12.le
   rw [← Nat.add_assoc] at this
   exact this
theorem own12_3 {t' : S12} (h0 : t'.ph ≠ 0) (h1 : t'.ph ≠ 1) (h2 : t'.ph ≠ 2) (h6 : t'.ph ≠ 6) (u : Nat) : own12 p t' u = if u ∈ p.path then -p.n else 0 := by
 unfold own12
 rw [if_neg h0, if_neg h1, if_neg h2, if_neg h6]
theorem own12_1 {t' : S12} (h1 : t'.ph = 1) (u : Nat) : own12 p t' u = (if u ∈ p.path.take t'.at_ then -p.n else 0) + (if u = p.v t'.at_ then pOwn p.n t'.po else 0) := by
 unfold own12
 rw [if_neg (by omega), if_pos h1]
theorem own12_2 {t' : S12} (h1 : t'.ph = 2) (u : Nat) : own12 p t' u = (if u ∈ p.path.take t'.at_ then -p.n else 0) := by
 unfold own12
 rw [if_neg (by omega), if_neg (by omega), if_pos h1]
theorem own12_6 {t' : S12} (h1 : t'.ph = 6) (u : Nat) : own12 p t' u = if t'.err = 0 ∧ u ∈ p.path then -p.n else 0 := by
 unfold own12
 rw [if_neg (by omega), if_neg (by omega), if_neg (by omega), if_pos h1]
theorem own12_0 {t' : S12} (h1 : t'.ph = 0) (u : Nat) : own12 p t' u = 0 := by
 unfold own12
 rw [if_pos h1]
theorem pooled12_go {t' : S12} (h : t'.po.next ≠ 7) : pooled12 p t' = t' := by unfold pooled12; rw [if_pos h]
theorem pooled12_bad {t' : S12} (h : t'.po.next = 7) (hb : t'.po.bad = true) : pooled12 p t' = { t' with ph := 2, err := 4, ond := (p.v t'.at_ : Nat) } := by unfold pooled12; rw [if_neg (fun e => e h), if_pos hb]
theorem pooled12_last {t' : S12} (h : t'.po.next = 7) (hb : ¬ t'.po.bad = true) (hl : t'.at_ + 1 = p.path.length) : pooled12 p t' = { t' with at_ := t'.at_ + 1, ph := 3 } := by unfold pooled12; rw [if_neg (fun e => e h), if_neg hb, if_pos hl]
theorem pooled12_more {t' : S12} (h : t'.po.next = 7) (hb : ¬ t'.po.bad = true) (hl : ¬ t'.at_ + 1 = p.path.length) : pooled12 p t' = { t' with at_ := t'.at_ + 1, po := po0 } := by unfold pooled12; rw [if_neg (fun e => e h), if_neg hb, if_neg hl]
theorem claimed12_go {t' : S12} (h : t'.cl.fin = 0) : claimed12 t' = t' := by unfold claimed12; rw [if_pos h]
theorem claimed12_none {t' : S12} (h : t'.cl.fin = 2) : claimed12 t' = { t' with ph := 6, err := 3 } := by unfold claimed12; rw [if_neg (by omega), if_pos h]
theorem claimed12_has {t' : S12} (h : ¬ t'.cl.fin = 0) (h2 : ¬ t'.cl.fin = 2) : claimed12 t' = { t' with ph := 1, po := po0 } := by unfold claimed12; rw [if_neg h, if_neg h2]
theorem added12_go {t' : S12} (h : t'.ad.st ≠ 9) : added12 p t' = t' := by unfold added12; rw [if_pos h]
theorem added12_more {t' : S12} (h : t'.ad.st = 9) (hl : t'.at_ + 1 < p.path.length) : added12 p t' = { t' with at_ := t'.at_ + 1, ad := ad0 p } := by unfold added12; rw [if_neg (fun e => e h), if_pos hl]
theorem added12_last {t' : S12} (h : t'.ad.st = 9) (hl : ¬ t'.at_ + 1 < p.path.length) : added12 p t' = { t' with at_ := t'.at_ + 1, ph := 6, on := hd16 t'.cl.n t'.live } := by unfold added12; rw [if_neg (fun e => e h), if_neg hl]
theorem n12_acc (hp : P12OK p) (hnd : p.path.Nodup) (h : I12 p X t) (he : t.ph = 2 → t.err ≠ 0) (hX : X ≤ 2199023255552) (h6 : t.ph ≠ 6) :
 ∃ a, (n12 p t).L = t.L ++ [a] ∧ ∀ u, u < p.P.length → ownU p u a = own12 p (n12 p t) u - own12 p t u ∧ leftN (n12 p t).W (p.av u) p.s = leftN t.W (p.av u) p.s + ownU p u a := by
 have hph := h.ph
 have hs8 := hp.s8
 have hc : t.ph = 0 ∨ t.ph = 1 ∨ t.ph = 2 ∨ t.ph = 3 ∨ t.ph = 4 ∨ t.ph = 5 := by omega
 have store : ∀ (i : Nat) (x : Int) (u : Nat), p.q ≤ i → u < p.P.length → leftN (t.W.set i x) (p.av u) p.s = leftN t.W (p.av u) p.s := by
  intro i x u hi hu
  refine leftN_out _ _ _ _ _ ?_
  have := pool_out (p := p) hi hu
  have := av_ctlt hs8.1 u
  omega
 rcases hc with e | e | e | e | e | e
 · obtain ⟨a, hL, hw, hk, hW⟩ := cNext_acc (K := p.K) (s := p.th) (q := p.q) t.c (h.ci e).2.1
   refine ⟨a, by rw [n12_0 e, claimed12_L]; exact hL, fun u hu => ?_⟩
   have h0 : ownU p u a = 0 := ownU_out (by rw [hw]; exact pool_out (by omega) hu)
   rw [h0, own12_0 e, n12_0 e]
   have hcz := (h.ci e).2.2
   have hW2 : ∀ t' : S12, (claimed12 t').W = t'.W := fun t' => by unfold claimed12; split <;> (try split) <;> rfl
   refine ⟨?_, ?_⟩
   · generalize cNext p.K p.th p.q t.c = x
     by_cases c0 : x.fin = 0
     · rw [claimed12_go (by exact c0), own12_0 (by exact e)]; rfl
     · by_cases c2 : x.fin = 2
       · rw [claimed12_none (by exact c2), own12_6 rfl, if_neg (by rintro ⟨h1, _⟩; simp at h1)]; rfl
       · rw [claimed12_has (by exact c0) (by exact c2), own12_1 rfl]
         simp only [hcz, List.take_zero, List.not_mem_nil, if_false]
         unfold pOwn po0
         simp
   · rw [hW2, Int.add_zero]
     refine leftN_congr _ _ _ _ (fun j h1 h2 => ?_)
     refine hW j (fun e => ?_)
     have := pool_out (p := p) (i := j) (by omega) hu
     have := av_ctlt hs8.1 u
     omega
 · obtain ⟨ha, hpi, h7⟩ := h.pi e
   obtain ⟨a, hL, hD, hw, _⟩ := pOwn_step hpi h7
   have hz := h.z (by omega) (by omega)
   have hvm := v_eq (p := p) ha
   have hnt := nodup_take hnd ha
   have hle : p.le (p.v t.at_) p.u = p.av (p.v t.at_) + 1 + p.u := by unfold P12.le P12.av; omega
   have hls := leftN_step (t := t.pl) (s := p.s) (hle ▸ hpi) hp.u1 h7
   rw [← hle] at hls
   have hpW := pNext_W (av := p.av (p.v t.at_)) (le := p.le (p.v t.at_) p.u) (n := p.n) (lim := p.lm) t.pl
   have hW2 : ∀ t' : S12, (pooled12 p t').W = t'.W := fun t' => by unfold pooled12; split <;> (try split) <;> (try split) <;> rfl
   have hs := hpi.step
   refine ⟨a, by rw [n12_1 e, pooled12_L]; exact hL, fun u hu => ?_⟩
   have hU : ownU p u a = if u = p.v t.at_ then pOwn p.n (pNext (p.av (p.v t.at_)) (p.le (p.v t.at_) p.u) p.n p.lm t.pl) - pOwn p.n t.po else 0 := by
    by_cases e1 : u = p.v t.at_
    · rw [if_pos e1, e1, ownU_own hp hw, hD]; rfl
    · rw [if_neg e1, ownU_other hp hw e1]
   refine ⟨?_, ?_⟩
   · rw [hU, own12_1 e, n12_1 e]
     have hsn := hs.nx
     generalize pNext (p.av (p.v t.at_)) (p.le (p.v t.at_) p.u) p.n p.lm t.pl = x at *
     have hmem : u ∈ p.path.take (t.at_ + 1) ↔ u ∈ p.path.take t.at_ ∨ u = p.v t.at_ := by rw [hvm]; exact take_mem ha
     have hdis : u = p.v t.at_ → u ∉ p.path.take t.at_ := fun e1 => by rw [e1, hvm]; exact hnt
     by_cases hx7 : x.next = 7
     · by_cases hb : x.bad = true
       · rw [pooled12_bad (by exact hx7) (by exact hb), own12_2 rfl]
         have hx0 : pOwn p.n x = 0 := by unfold pOwn; rw [if_pos hx7, if_pos hb]
         rw [hx0]
         by_cases e1 : u = p.v t.at_ <;> simp only [e1, if_true, if_false] <;> omega
       · have hxn : pOwn p.n x = -p.n := by unfold pOwn; rw [if_pos hx7, if_neg hb]
         have hsum : (if u ∈ p.path.take (t.at_ + 1) then -p.n else 0) = (if u ∈ p.path.take t.at_ then -p.n else 0) + (if u = p.v t.at_ then -p.n else 0) := by
          simp only [hmem]
          by_cases e1 : u = p.v t.at_
          · have := hdis e1
            simp [e1] at this ⊢
            simp [this]
          · simp [e1]
         by_cases hl : t.at_ + 1 = p.path.length
         · rw [pooled12_last (by exact hx7) (by exact hb) (by exact hl), own12_3 (by show (3 : Nat) ≠ 0; omega) (by show (3 : Nat) ≠ 1; omega) (by show (3 : Nat) ≠ 2; omega) (by show (3 : Nat) ≠ 6; omega)]
           have e3 : p.path.take (t.at_ + 1) = p.path := by rw [hl]; exact List.take_length
           rw [e3] at hsum
           rw [hsum, hxn]
           by_cases e1 : u = p.v t.at_ <;> simp only [e1, if_true, if_false] <;> omega
         · rw [pooled12_more (by exact hx7) (by exact hb) (by exact hl), own12_1 (by exact e)]
           have : pOwn p.n po0 = 0 := by unfold pOwn po0; simp
           simp only [this, ite_self]
           rw [hsum, hxn]
           by_cases e1 : u = p.v t.at_ <;> simp only [e1, if_true, if_false] <;> omega
     · rw [pooled12_go (by exact hx7), own12_1 (by exact e)]
       show _ = _ + (if u = p.v t.at_ then pOwn p.n x else 0) - _
       by_cases e1 : u = p.v t.at_ <;> simp only [e1, if_true, if_false] <;> omega
   · rw [hU, n12_1 e, hW2]
     by_cases e1 : u = p.v t.at_
     · rw [if_pos e1, e1]; exact hls
     · rw [if_neg e1, Int.add_zero]
       show leftN (pNext _ _ _ _ t.pl).W _ _ = _
       have o1 := pool_apart (p := p) (i := 1) (by omega) e1
       have o2 := pool_apart (p := p) (i := 2 + p.u) (by have := hp.u1; omega) e1
       have o3 := av_ctlt hs8.1 u
       rcases hpW with e2 | ⟨x, e2⟩ | ⟨x, e2⟩
       · rw [e2]; rfl
       · rw [e2]; exact leftN_out _ _ _ _ _ (by unfold P12.av at *; omega)
       · rw [e2]; exact leftN_out _ _ _ _ _ (by unfold P12.av P12.le at *; omega)
 · by_cases h2 : 0 < t.at_
   · have ha : t.at_ - 1 < p.path.length := by have := h.at_; omega
     have hvm := v_eq (p := p) ha
     have hnt := nodup_take hnd ha
     have hv := hp.v1 ha
     have hb := h.w.av _ hv
     have hl := h.w.ln
     have hlt := hp.av_lt hv
     have hn1 := hp.n1
     have ew : wrap64 (rd t.W (p.av (p.v (t.at_ - 1))) + p.n) = rd t.W (p.av (p.v (t.at_ - 1))) + p.n := by unfold wrap64; omega
     refine ⟨_, by rw [n12_2 e h2], fun u hu => ?_⟩
     have hU : ownU p u ⟨2, (p.av (p.v (t.at_ - 1)) : Nat), p.n, wrap64 (rd t.W (p.av (p.v (t.at_ - 1))) + p.n), false⟩ = if u = p.v (t.at_ - 1) then p.n else 0 := by
      by_cases e1 : u = p.v (t.at_ - 1)
      · rw [if_pos e1, e1, ownU_own hp (Or.inl rfl)]; rfl
      · rw [if_neg e1, ownU_other hp (Or.inl rfl) e1]
     rw [hU]
     refine ⟨?_, ?_⟩
     · rw [own12_2 e, n12_2 e h2, own12_2 (by exact e)]
       have ht : t.at_ = t.at_ - 1 + 1 := by omega
       have hm : u ∈ p.path.take t.at_ ↔ u ∈ p.path.take (t.at_ - 1) ∨ u = p.v (t.at_ - 1) := by
        have e1 := take_mem (u := u) ha
        rw [Nat.sub_add_cancel h2] at e1
        rw [hvm]; exact e1
       simp only [hm]
       by_cases e1 : u = p.v (t.at_ - 1)
       · have : u ∉ p.path.take (t.at_ - 1) := by rw [e1, hvm]; exact hnt
         simp [e1] at this ⊢
         simp [this]
       · simp [e1]
     · rw [n12_2 e h2]
       simp only
       by_cases e1 : u = p.v (t.at_ - 1)
       · rw [if_pos e1, e1, leftN_set _ _ _ _ _ (Nat.le_refl _) (by omega) (by omega), ew]; omega
       · rw [if_neg e1, Int.add_zero]
         have o1 := pool_apart (p := p) (i := 1) (by omega) e1
         have o3 := av_ctlt hs8.1 u
         exact leftN_out _ _ _ _ _ (by unfold P12.av at *; omega)
   · refine ⟨_, by rw [n12_2z e h2], fun u hu => ?_⟩
     have h0 : ownU p u ⟨4, (t.tk p : Nat), pNext6 t.cl.set 0, 0, false⟩ = 0 := ownU_out (pool_out (by unfold S12.tk; omega) hu)
     rw [h0]
     refine ⟨?_, by rw [n12_2z e h2, Int.add_zero]; exact store _ _ u (by unfold S12.tk; omega) hu⟩
     rw [own12_2 e, n12_2z e h2, own12_6 rfl]
     have ht : t.at_ = 0 := by omega
     simp only [ht, List.take_zero, List.not_mem_nil, if_false]
     rw [if_neg (fun h => he e h.1)]; rfl
 · refine ⟨_, by rw [n12_3 e], fun u hu => ?_⟩
   have h0 : ownU p u ⟨4, (t.tk p + 1 : Nat), p.nd * 2097152 + p.n, 0, false⟩ = 0 := ownU_out (pool_out (by unfold S12.tk; omega) hu)
   rw [h0]
   refine ⟨?_, by rw [n12_3 e, Int.add_zero]; exact store _ _ u (by unfold S12.tk; omega) hu⟩
   rw [own12_3 (t' := t) (by omega) (by omega) (by omega) (by omega), n12_3 e, own12_3 (by show (4 : Nat) ≠ 0; omega) (by show (4 : Nat) ≠ 1; omega) (by show (4 : Nat) ≠ 2; omega) (by show (4 : Nat) ≠ 6; omega)]
   omega
 · refine ⟨_, by rw [n12_4 e], fun u hu => ?_⟩
   have h0 : ownU p u ⟨4, (t.tk p : Nat), pNext6 t.cl.set 2, 0, false⟩ = 0 := ownU_out (pool_out (by unfold S12.tk; omega) hu)
   rw [h0]
   refine ⟨?_, by rw [n12_4 e, Int.add_zero]; exact store _ _ u (by unfold S12.tk; omega) hu⟩
   rw [own12_3 (t' := t) (by omega) (by omega) (by omega) (by omega), n12_4 e, own12_3 (by show (5 : Nat) ≠ 0; omega) (by show (5 : Nat) ≠ 1; omega) (by show (5 : Nat) ≠ 2; omega) (by show (5 : Nat) ≠ 6; omega)]
   omega
 · obtain ⟨ha, hai, h9, hsp⟩ := h.ai e
   have hz := h.z (by omega) (by omega)
   obtain ⟨a, hL, hw0, hw1⟩ := aNext_acc hai h9
   have hW2 : ∀ t' : S12, (added12 p t').W = t'.W := fun t' => by unfold added12; split <;> (try split) <;> rfl
   refine ⟨a, by rw [n12_5 e, added12_L]; exact hL, fun u hu => ?_⟩
   rw [ownU_ct hw0 hw1]
   refine ⟨?_, ?_⟩
   · rw [own12_3 (t' := t) (by omega) (by omega) (by omega) (by omega), n12_5 e]
     generalize aNext (p.ct (p.v t.at_)) p.s p.g p.n t.a = x
     by_cases x9 : x.st = 9
     · by_cases hl : t.at_ + 1 < p.path.length
       · rw [added12_more (by exact x9) (by exact hl), own12_3 (by simp only; omega) (by simp only; omega) (by simp only; omega) (by simp only; omega)]; omega
       · rw [added12_last (by exact x9) (by exact hl), own12_6 rfl]
         simp only [hz.1, true_and]
         omega
     · rw [added12_go (by exact x9), own12_3 (by simp only; omega) (by simp only; omega) (by simp only; omega) (by simp only; omega)]; omega
   · rw [n12_5 e, hW2, Int.add_zero]
     refine leftN_congr _ _ _ _ (fun j h1 h2 => ?_)
     refine aNext_out hai ?_
     have := pool_ct (p := p) (u := u) (v := p.v t.at_) (i := j)
     have := av_ctlt hs8.1 u
     omega
end
end Go.Proofs.YthaceckccobgeaaGreat

namespace Go.Proofs.YthaceckccobgeaaGreat
open Go.RowKit
set_option linter.unusedVariables false
set_option linter.unusedSimpArgs false
def P12.li (p : P12) (v : Nat) : Nat := v * (6 + 2 * p.s)
def P12.far (p : P12) (i : Nat) : Prop := p.q ≤ i ∨ ∃ v, v < p.P.length ∧ i = p.li v
section
variable {p : P12} {X : Int} {t : S12} {W0 : List Int}
theorem far_av (hp : P12OK p) {i v : Nat} (h : p.far i) (hv : v < p.P.length) : i ≠ p.av v := by
 rcases h with h | ⟨u, hu, rfl⟩
 · have := hp.av_lt hv; omega
 · intro e
   have := node_ne (v := u) (u := v) (e := 6 + 2 * p.s) (o := 0) (o' := 1) (by omega) (by omega) (by unfold P12.li P12.av at e; omega)
   omega
theorem far_le (hp : P12OK p) {i v u : Nat} (h : p.far i) (hv : v < p.P.length) (hu : u < p.s) : i ≠ p.le v u := by
 rcases h with h | ⟨u', hu', rfl⟩
 · have := hp.le_lt hv hu; omega
 · intro e
   have := node_ne (v := u') (u := v) (e := 6 + 2 * p.s) (o := 0) (o' := 2 + u) (by omega) (by omega) (by unfold P12.li P12.le at e; omega)
   omega
theorem far_ct (hp : P12OK p) {i v : Nat} (h : p.far i) (hv : v < p.P.length) : i < p.ct v ∨ p.ct v + 4 + p.s ≤ i := by
 rcases h with h | ⟨u, hu, rfl⟩
 · have := hp.ct_lt hv; omega
 · rcases Nat.lt_or_ge v u with h1 | h1
   · right
     have h2 : (v + 1) * (6 + 2 * p.s) ≤ u * (6 + 2 * p.s) := Nat.mul_le_mul_right _ h1
     rw [Nat.add_mul] at h2
     unfold P12.ct P12.li
     omega
   · left
     have h2 : u * (6 + 2 * p.s) ≤ v * (6 + 2 * p.s) := Nat.mul_le_mul_right _ h1
     unfold P12.ct P12.li
     omega
theorem far_pool (hp : P12OK p) {i v : Nat} (h : p.far i) (hv : v < p.P.length) (x : PS) : rd (pNext (p.av v) (p.le v p.u) p.n p.lm x).W i = rd x.W i := by
 rcases pNext_W (av := p.av v) (le := p.le v p.u) (n := p.n) (lim := p.lm) x with e | ⟨y, e⟩ | ⟨y, e⟩
 · rw [e]
 · rw [e, rd_set, if_neg (fun e' => far_av hp h hv e'.1)]
 · rw [e, rd_set, if_neg (fun e' => far_le hp h hv hp.u1 e'.1)]
theorem far_add (hp : P12OK p) {i v : Nat} (h : p.far i) (hv : v < p.P.length) {d : Int} {x : AS} (hi : AInv (p.ct v) p.s p.g d x) : rd (aNext (p.ct v) p.s p.g d x).W i = rd x.W i := aNext_out hi (far_ct hp h hv)
structure T12 (p : P12) (W0 : List Int) (t : S12) : Prop where
 ot : ∀ i, p.far i → (t.ph = 0 ∨ t.err = 3 ∨ (i ≠ t.tk p ∧ i ≠ t.tk p + 1)) → rd t.W i = rd W0 i
 c0 : t.ph = 0 → t.cl.seen = true → st10 (rd t.W (p.q + 2 * ck p.K p.th t.cl.j)) = 0 ∧ t.cl.saw = rd t.W (p.q + 2 * ck p.K p.th t.cl.j)
 er : t.err = 0 ∨ (t.ph = 6 ∧ t.err = 3) ∨ ((t.ph = 2 ∨ t.ph = 6) ∧ t.err = 4)
 e2 : t.ph = 2 → t.err = 4
 fr : 1 ≤ t.ph → t.err ≠ 3 → st10 (rd W0 (t.tk p)) = 0 ∧ t.cl.set = pNext6 (rd W0 (t.tk p)) 1
 own : 1 ≤ t.ph → t.ph ≤ 4 → rd t.W (t.tk p) = t.cl.set
 bd : 1 ≤ t.ph → t.ph ≤ 3 → rd t.W (t.tk p + 1) = rd W0 (t.tk p + 1)
 b4 : t.ph = 4 → rd t.W (t.tk p + 1) = (p.nd : Int) * 2097152 + p.n
 lv : (t.ph = 5 ∨ t.ph = 6 ∧ t.err = 0) → rd t.W (t.tk p) = pNext6 t.cl.set 2 ∧ rd t.W (t.tk p + 1) = (p.nd : Int) * 2097152 + p.n
 e4 : t.ph = 6 → t.err = 4 → rd t.W (t.tk p) = pNext6 t.cl.set 0 ∧ rd t.W (t.tk p + 1) = rd W0 (t.tk p + 1)
theorem T12.start (L : List Acc) : T12 p W0 (start12 p W0 L) := by
 have e : (start12 p W0 L).ph = 0 := rfl
 refine ⟨fun _ _ _ => rfl, fun _ h => absurd (show false = true from h) (by simp), Or.inl rfl, fun h => ?_, fun h => ?_, fun h => ?_, fun h => ?_, fun h => ?_, fun h => ?_, fun h => ?_⟩ <;> rw [e] at h <;> omega
theorem T12.over (h : T12 p W0 t) (h6 : t.ph = 6) : T12 p W0 (n12 p t) := by rw [I12.over h6]; exact h
theorem tk_far (t : S12) : p.far (t.tk p) := Or.inl (by unfold S12.tk; omega)
theorem tk_far1 (t : S12) : p.far (t.tk p + 1) := Or.inl (by unfold S12.tk; omega)
theorem T12.pool (hp : P12OK p) (h : T12 p W0 t) (hi : I12 p X t) (e : t.ph = 1) : T12 p W0 (n12 p t) := by
 have hv := hp.v1 (hi.pi e).1
 have hf := fun i (hf : p.far i) => far_pool hp hf hv t.pl
 rw [n12_1 e]
 generalize pNext (p.av (p.v t.at_)) (p.le (p.v t.at_) p.u) p.n p.lm t.pl = x at *
 have hz := hi.z (by omega) (by omega)
 have h1 := h.fr (by omega) (by omega)
 have h2 := h.own (by omega) (by omega)
 have h3 := h.bd (by omega) (by omega)
 have hW : ∀ i, p.far i → rd x.W i = rd t.W i := hf
 have ho : ∀ i, p.far i → (i ≠ t.tk p ∧ i ≠ t.tk p + 1) → rd x.W i = rd W0 i := fun i hi hn => (hW i hi).trans (h.ot i hi (Or.inr (Or.inr hn)))
 have hk1 := (hW _ (tk_far t)).trans h2
 have hk2 := (hW _ (tk_far1 t)).trans h3
 by_cases c7 : x.next = 7
 · by_cases cb : x.bad = true
   · rw [pooled12_bad (by exact c7) (by exact cb)]
     refine ⟨fun i hi hn => ho i hi ?_, fun h => ?_, Or.inr (Or.inr ⟨Or.inl rfl, rfl⟩), fun _ => rfl, fun _ _ => h1, fun _ _ => hk1, fun _ _ => hk2, fun h => ?_, fun h => ?_, fun h => ?_⟩
     · rcases hn with hn | hn | hn
       · exact absurd hn (by simp)
       · exact absurd hn (by simp)
       · exact hn
     · exact absurd h (by simp)
     · exact absurd h (by simp)
     · rcases h with h | ⟨h, _⟩ <;> exact absurd h (by simp)
     · exact absurd h (by simp)
   · by_cases cl : t.at_ + 1 = p.path.length
     · rw [pooled12_last (by exact c7) (by exact cb) (by exact cl)]
       refine ⟨fun i hi hn => ho i hi ?_, fun h => ?_, Or.inl hz.1, fun h => ?_, fun _ _ => h1, fun _ _ => hk1, fun _ _ => hk2, fun h => ?_, fun h => ?_, fun h => ?_⟩
       · rcases hn with hn | hn | hn
         · exact absurd hn (by simp)
         · have hn : t.err = 3 := hn
           omega
         · exact hn
       · exact absurd h (by simp)
       · exact absurd h (by simp)
       · exact absurd h (by simp)
       · rcases h with h | ⟨h, _⟩ <;> exact absurd h (by simp)
       · exact absurd h (by simp)
     · rw [pooled12_more (by exact c7) (by exact cb) (by exact cl)]
       exact ⟨fun i hi hn => ho i hi (by rcases hn with hn | hn | hn; exact absurd (show t.ph = 0 from hn) (by omega); exact absurd (show t.err = 3 from hn) (by omega); exact hn), fun h => absurd (show t.ph = 0 from h) (by omega), Or.inl hz.1, fun h => absurd (show t.ph = 2 from h) (by omega), fun _ _ => h1, fun _ _ => hk1, fun _ _ => hk2, fun h => absurd (show t.ph = 4 from h) (by omega), fun h => absurd (show t.ph = 5 ∨ t.ph = 6 ∧ t.err = 0 from h) (by omega), fun h => absurd (show t.ph = 6 from h) (by omega)⟩
 · rw [pooled12_go (by exact c7)]
   exact ⟨fun i hi hn => ho i hi (by rcases hn with hn | hn | hn; exact absurd (show t.ph = 0 from hn) (by omega); exact absurd (show t.err = 3 from hn) (by omega); exact hn), fun h => absurd (show t.ph = 0 from h) (by omega), Or.inl hz.1, fun h => absurd (show t.ph = 2 from h) (by omega), fun _ _ => h1, fun _ _ => hk1, fun _ _ => hk2, fun h => absurd (show t.ph = 4 from h) (by omega), fun h => absurd (show t.ph = 5 ∨ t.ph = 6 ∧ t.err = 0 from h) (by omega), fun h => absurd (show t.ph = 6 from h) (by omega)⟩
theorem T12.add (hp : P12OK p) (h : T12 p W0 t) (hi : I12 p X t) (e : t.ph = 5) : T12 p W0 (n12 p t) := by
 obtain ⟨hat, hai, _, _⟩ := hi.ai e
 have hv := hp.v1 hat
 have hf := fun i (hf : p.far i) => far_add hp hf hv hai
 rw [n12_5 e]
 generalize aNext (p.ct (p.v t.at_)) p.s p.g p.n t.a = x at *
 have hz := hi.z (by omega) (by omega)
 have h1 := h.fr (by omega) (by omega)
 have h2 := h.lv (Or.inl e)
 have hW : ∀ i, p.far i → rd x.W i = rd t.W i := hf
 have ho : ∀ i, p.far i → (i ≠ t.tk p ∧ i ≠ t.tk p + 1) → rd x.W i = rd W0 i := fun i hi hn => (hW i hi).trans (h.ot i hi (Or.inr (Or.inr hn)))
 have hk1 := (hW _ (tk_far t)).trans h2.1
 have hk2 := (hW _ (tk_far1 t)).trans h2.2
 by_cases c9 : x.st = 9
 · by_cases cl : t.at_ + 1 < p.path.length
   · rw [added12_more (by exact c9) (by exact cl)]
     exact ⟨fun i hi hn => ho i hi (by rcases hn with hn | hn | hn; exact absurd (show t.ph = 0 from hn) (by omega); exact absurd (show t.err = 3 from hn) (by omega); exact hn), fun h => absurd (show t.ph = 0 from h) (by omega), Or.inl hz.1, fun h => absurd (show t.ph = 2 from h) (by omega), fun _ _ => h1, fun _ h => absurd (show t.ph ≤ 4 from h) (by omega), fun _ h => absurd (show t.ph ≤ 3 from h) (by omega), fun h => absurd (show t.ph = 4 from h) (by omega), fun _ => ⟨hk1, hk2⟩, fun h => absurd (show t.ph = 6 from h) (by omega)⟩
   · rw [added12_last (by exact c9) (by exact cl)]
     exact ⟨fun i hi hn => ho i hi (by rcases hn with hn | hn | hn; exact absurd hn (by simp); exact absurd (show t.err = 3 from hn) (by omega); exact hn), (fun h => absurd h (by simp)), Or.inl hz.1, (fun h => absurd h (by simp)), fun _ _ => h1, (fun _ h => absurd h (by simp)), (fun _ h => absurd h (by simp)), (fun h => absurd h (by simp)), fun _ => ⟨hk1, hk2⟩, fun _ h => absurd (show t.err = 4 from h) (by omega)⟩
 · rw [added12_go (by exact c9)]
   exact ⟨fun i hi hn => ho i hi (by rcases hn with hn | hn | hn; exact absurd (show t.ph = 0 from hn) (by omega); exact absurd (show t.err = 3 from hn) (by omega); exact hn), fun h => absurd (show t.ph = 0 from h) (by omega), Or.inl hz.1, fun h => absurd (show t.ph = 2 from h) (by omega), fun _ _ => h1, fun _ h => absurd (show t.ph ≤ 4 from h) (by omega), fun _ h => absurd (show t.ph ≤ 3 from h) (by omega), fun h => absurd (show t.ph = 4 from h) (by omega), fun _ => ⟨hk1, hk2⟩, fun h => absurd (show t.ph = 6 from h) (by omega)⟩
theorem T12.store3 (hp : P12OK p) (h : T12 p W0 t) (hi : I12 p X t) (e : t.ph = 3) : T12 p W0 (n12 p t) := by
 rw [n12_3 e]
 have hz := hi.z (by omega) (by omega)
 have h1 := h.fr (by omega) (by omega)
 have h2 := h.own (by omega) (by omega)
 have hln : t.W.length = p.q + 2 * p.K := hi.w.ln
 have hn := hi.cn
 have hk : t.tk p + 1 < t.W.length := by unfold S12.tk; omega
 refine ⟨fun i hi hn => ?_, (fun h => absurd h (by simp)), Or.inl hz.1, (fun h => absurd h (by simp)), fun _ _ => h1, fun _ _ => ?_, (fun _ h => absurd h (by simp)), fun _ => ?_, fun h => ?_, (fun h => absurd h (by simp))⟩
 · have hn' : i ≠ t.tk p ∧ i ≠ t.tk p + 1 := by
    rcases hn with hn | hn | hn
    · exact absurd hn (by simp)
    · exact absurd (show t.err = 3 from hn) (by omega)
    · exact hn
   show rd (t.W.set _ _) i = _
   rw [rd_set, if_neg (fun e' => hn'.2 e'.1)]
   exact h.ot i hi (Or.inr (Or.inr hn'))
 · show rd (t.W.set _ _) (t.tk p) = _
   rw [rd_set, if_neg (fun e' => by have := e'.1; omega)]
   exact h2
 · show rd (t.W.set _ _) (t.tk p + 1) = _
   rw [rd_set, if_pos ⟨rfl, hk⟩]
 · rcases h with h | ⟨h, _⟩ <;> exact absurd h (by simp)
theorem T12.store4 (hp : P12OK p) (h : T12 p W0 t) (hi : I12 p X t) (e : t.ph = 4) : T12 p W0 (n12 p t) := by
 rw [n12_4 e]
 have hz := hi.z (by omega) (by omega)
 have h1 := h.fr (by omega) (by omega)
 have h2 := h.b4 e
 have hln : t.W.length = p.q + 2 * p.K := hi.w.ln
 have hn := hi.cn
 have hk : t.tk p + 1 < t.W.length := by unfold S12.tk; omega
 refine ⟨fun i hi hn => ?_, (fun h => absurd h (by simp)), Or.inl hz.1, (fun h => absurd h (by simp)), fun _ _ => h1, (fun _ h => absurd h (by simp)), (fun _ h => absurd h (by simp)), (fun h => absurd h (by simp)), fun _ => ⟨?_, ?_⟩, (fun h => absurd h (by simp))⟩
 · have hn' : i ≠ t.tk p ∧ i ≠ t.tk p + 1 := by
    rcases hn with hn | hn | hn
    · exact absurd hn (by simp)
    · exact absurd (show t.err = 3 from hn) (by omega)
    · exact hn
   show rd (t.W.set _ _) i = _
   rw [rd_set, if_neg (fun e' => hn'.1 e'.1)]
   exact h.ot i hi (Or.inr (Or.inr hn'))
 · show rd (t.W.set _ _) (t.tk p) = _
   rw [rd_set, if_pos ⟨rfl, by omega⟩]
 · show rd (t.W.set _ _) (t.tk p + 1) = _
   rw [rd_set, if_neg (fun e' => by have := e'.1; omega)]
   exact h2
theorem T12.back (hp : P12OK p) (h : T12 p W0 t) (hi : I12 p X t) (e : t.ph = 2) : T12 p W0 (n12 p t) := by
 have he := h.e2 e
 have h1 := h.fr (by omega) (by omega)
 have h2 := h.own (by omega) (by omega)
 have h3 := h.bd (by omega) (by omega)
 have hln : t.W.length = p.q + 2 * p.K := hi.w.ln
 have hn := hi.cn
 have hk : t.tk p + 1 < t.W.length := by unfold S12.tk; omega
 by_cases c : 0 < t.at_
 · have hat : t.at_ ≤ p.path.length := hi.at_
   have hv := hp.v1 (show t.at_ - 1 < p.path.length by omega)
   rw [n12_2 e c]
   refine ⟨fun i hi hn => ?_, fun h => absurd (show t.ph = 0 from h) (by omega), Or.inr (Or.inr ⟨Or.inl e, he⟩), fun _ => he, fun _ _ => h1, fun _ _ => ?_, fun _ _ => ?_, fun h => absurd (show t.ph = 4 from h) (by omega), fun h => absurd (show t.ph = 5 ∨ t.ph = 6 ∧ t.err = 0 from h) (by omega), fun h => absurd (show t.ph = 6 from h) (by omega)⟩
   · have hn' : i ≠ t.tk p ∧ i ≠ t.tk p + 1 := by
      rcases hn with hn | hn | hn
      · exact absurd (show t.ph = 0 from hn) (by omega)
      · exact absurd (show t.err = 3 from hn) (by omega)
      · exact hn
     show rd (t.W.set _ _) i = _
     rw [rd_set, if_neg (fun e' => far_av hp hi hv e'.1)]
     exact h.ot i hi (Or.inr (Or.inr hn'))
   · show rd (t.W.set _ _) (t.tk p) = _
     rw [rd_set, if_neg (fun e' => far_av hp (tk_far t) hv e'.1)]
     exact h2
   · show rd (t.W.set _ _) (t.tk p + 1) = _
     rw [rd_set, if_neg (fun e' => far_av hp (tk_far1 t) hv e'.1)]
     exact h3
 · rw [n12_2z e c]
   refine ⟨fun i hi hn => ?_, (fun h => absurd h (by simp)), Or.inr (Or.inr ⟨Or.inr rfl, he⟩), (fun h => absurd h (by simp)), fun _ _ => h1, (fun _ h => absurd h (by simp)), (fun _ h => absurd h (by simp)), (fun h => absurd h (by simp)), fun h => ?_, fun _ _ => ⟨?_, ?_⟩⟩
   · have hn' : i ≠ t.tk p ∧ i ≠ t.tk p + 1 := by
      rcases hn with hn | hn | hn
      · exact absurd hn (by simp)
      · exact absurd (show t.err = 3 from hn) (by omega)
      · exact hn
     show rd (t.W.set _ _) i = _
     rw [rd_set, if_neg (fun e' => hn'.1 e'.1)]
     exact h.ot i hi (Or.inr (Or.inr hn'))
   · rcases h with h | ⟨_, h⟩
     · exact absurd h (by simp)
     · exact absurd (show t.err = 0 from h) (by omega)
   · show rd (t.W.set _ _) (t.tk p) = _
     rw [rd_set, if_pos ⟨rfl, by omega⟩]
   · show rd (t.W.set _ _) (t.tk p + 1) = _
     rw [rd_set, if_neg (fun e' => by have := e'.1; omega)]
     exact h3
theorem T12.claim (hp : P12OK p) (h : T12 p W0 t) (hi : I12 p X t) (e : t.ph = 0) : T12 p W0 (n12 p t) := by
 obtain ⟨hci, hfin, hat⟩ := hi.ci e
 have hz := hi.z (by omega) (by omega)
 have hln : t.W.length = p.q + 2 * p.K := hi.w.ln
 have hck : ck p.K p.th t.cl.j < p.K := ck_lt hp.k1.1
 have hot : ∀ i, p.far i → rd t.W i = rd W0 i := fun i hi => h.ot i hi (Or.inl e)
 have hfar : p.far (p.q + 2 * ck p.K p.th t.cl.j) := Or.inl (by omega)
 rw [n12_0 e]
 have hcf : t.c.fin = 0 := hfin
 have keep : ∀ (x : CS), x.W = t.W → (x.fin = 0 → x.seen = true → st10 (rd t.W (p.q + 2 * ck p.K p.th x.j)) = 0 ∧ x.saw = rd t.W (p.q + 2 * ck p.K p.th x.j)) → (x.fin = 0 ∨ x.fin = 2) → T12 p W0 (claimed12 { t with W := x.W, L := x.L, cl := x }) := by
  intro x hxw hc hf
  rcases hf with hf | hf
  · rw [claimed12_go (by exact hf)]
    have g0 : t.ph = 0 := e
    refine ⟨fun i hi _ => ?_, fun _ hs => ?_, Or.inl hz.1, fun h => absurd (show t.ph = 2 from h) (by omega), fun h => absurd (show 1 ≤ t.ph from h) (by omega), fun h => absurd (show 1 ≤ t.ph from h) (by omega), fun h => absurd (show 1 ≤ t.ph from h) (by omega), fun h => absurd (show t.ph = 4 from h) (by omega), fun h => absurd (show t.ph = 5 ∨ t.ph = 6 ∧ t.err = 0 from h) (by omega), fun h => absurd (show t.ph = 6 from h) (by omega)⟩
    · show rd x.W i = _
      rw [hxw]; exact hot i hi
    · show st10 (rd x.W _) = 0 ∧ x.saw = rd x.W _
      rw [hxw]; exact hc hf hs
  · rw [claimed12_none (by exact hf)]
    refine ⟨fun i hi _ => ?_, (fun h => absurd h (by simp)), Or.inr (Or.inl ⟨rfl, rfl⟩), (fun h => absurd h (by simp)), (fun _ h => absurd rfl h), (fun _ h => absurd h (by simp)), (fun _ h => absurd h (by simp)), (fun h => absurd h (by simp)), (fun h => ?_), (fun _ h => absurd h (by simp))⟩
    · show rd x.W i = _
      rw [hxw]; exact hot i hi
    · rcases h with h | ⟨_, h⟩ <;> exact absurd h (by simp)
 cases hs : t.cl.seen with
 | false =>
  have hcs : t.c.seen = false := hs
  by_cases c : st10 (rd t.c.W (p.q + 2 * ck p.K p.th t.c.j)) = 0
  · have hx : cNext p.K p.th p.q t.c = cLook p.K p.th p.q t.c := by unfold cNext; rw [if_pos hcf, if_pos hcs, if_pos c]
    rw [hx]
    exact keep _ rfl (fun _ _ => ⟨c, rfl⟩) (Or.inl hcf)
  · have hx : cNext p.K p.th p.q t.c = cNx p.K (cLook p.K p.th p.q t.c) := by unfold cNext; rw [if_pos hcf, if_pos hcs, if_neg c]
    rw [hx]
    refine keep _ rfl (fun _ h => by cases h) ?_
    show (if t.c.j + 1 = p.K then 2 else 0) = 0 ∨ (if t.c.j + 1 = p.K then 2 else 0) = 2
    split
    · exact Or.inr rfl
    · exact Or.inl rfl
 | true =>
  have hcs : ¬ t.c.seen = false := by show ¬ t.cl.seen = false; rw [hs]; simp
  obtain ⟨g1, g2⟩ := h.c0 e hs
  have hw : rd t.c.W (p.q + 2 * ck p.K p.th t.c.j) = t.c.saw := g2.symm
  have hx : cNext p.K p.th p.q t.c = { cTake p.K p.th p.q t.c with fin := 1, n := ck p.K p.th t.c.j, set := pNext6 t.c.saw 1 } := by unfold cNext; rw [if_pos hcf, if_neg hcs, if_pos hw]
  rw [hx, claimed12_has (by simp) (by simp)]
  have hW : (cTake p.K p.th p.q t.c).W = t.W.set (p.q + 2 * ck p.K p.th t.cl.j) (pNext6 t.cl.saw 1) := by show casW _ _ _ _ = _; unfold casW; rw [if_pos (by simpa using hw)]; rfl
  have h0 := hot _ hfar
  refine ⟨fun i hi hn => ?_, (fun h => absurd h (by simp)), Or.inl hz.1, (fun h => absurd h (by simp)), fun _ _ => ⟨?_, ?_⟩, fun _ _ => ?_, fun _ _ => ?_, (fun h => absurd h (by simp)), (fun h => ?_), (fun h => absurd h (by simp))⟩
  · have hn' : i ≠ p.q + 2 * ck p.K p.th t.cl.j := by
     rcases hn with hn | hn | hn
     · exact absurd hn (by simp)
     · exact absurd (show t.err = 3 from hn) (by omega)
     · exact hn.1
    show rd (cTake p.K p.th p.q t.c).W i = _
    rw [hW, rd_set, if_neg (fun e' => hn' e'.1)]
    exact hot i hi
  · show st10 (rd W0 (p.q + 2 * ck p.K p.th t.cl.j)) = 0
    rw [← h0]; exact g1
  · show pNext6 t.cl.saw 1 = pNext6 (rd W0 (p.q + 2 * ck p.K p.th t.cl.j)) 1
    rw [← h0, g2]
  · show rd (cTake p.K p.th p.q t.c).W (p.q + 2 * ck p.K p.th t.cl.j) = pNext6 t.cl.saw 1
    rw [hW, rd_set, if_pos ⟨rfl, by omega⟩]
  · show rd (cTake p.K p.th p.q t.c).W (p.q + 2 * ck p.K p.th t.cl.j + 1) = rd W0 (p.q + 2 * ck p.K p.th t.cl.j + 1)
    rw [hW, rd_set, if_neg (fun e' => by have := e'.1; omega)]
    exact hot _ (Or.inl (by omega))
  · rcases h with h | ⟨h, _⟩ <;> exact absurd h (by simp)
theorem T12.step (hp : P12OK p) (h : T12 p W0 t) (hi : I12 p X t) : T12 p W0 (n12 p t) := by
 have hph := hi.ph
 have hc : t.ph = 0 ∨ t.ph = 1 ∨ t.ph = 2 ∨ t.ph = 3 ∨ t.ph = 4 ∨ t.ph = 5 ∨ t.ph = 6 := by omega
 rcases hc with e | e | e | e | e | e | e
 · exact h.claim hp hi e
 · exact h.pool hp hi e
 · exact h.back hp hi e
 · exact h.store3 hp hi e
 · exact h.store4 hp hi e
 · exact h.add hp hi e
 · exact h.over e
theorem st10_pn (v x : Int) (hx : 0 ≤ x ∧ x ≤ 3) : st10 (pNext6 v x) = x := by
 unfold st10
 rw [pVal_next v x (by omega), if_pos hx]
theorem lvB_no {pn at_ : Nat} {W : List Int} (h : st10 (rd W at_) ≠ 2) : lvB pn W at_ = false := by
 unfold lvB
 simp [h]
theorem useT_no {P W : List Int} {q v k : Nat} (h : st10 (rd W (q + 2 * k)) ≠ 2) : useT P W q v k = 0 := by
 unfold useT
 rw [lvB_no h, if_neg (by simp)]
theorem useT_congr {P W W' : List Int} {q v k : Nat} (h1 : rd W' (q + 2 * k) = rd W (q + 2 * k)) (h2 : rd W' (q + 2 * k + 1) = rd W (q + 2 * k + 1)) : useT P W' q v k = useT P W q v k := by
 unfold useT lvB lvV lvN lvB
 rw [h1, h2]
def S12.liv (t : S12) : Prop := t.ph = 5 ∨ t.ph = 6 ∧ t.err = 0
theorem useT_live (hp : P12OK p) (h : T12 p W0 t) (hl : t.liv) (v : Nat) : useT p.P t.W p.q v t.cl.n = if undP p.P p.nd v = true then p.n else 0 := by
 obtain ⟨h1, h2⟩ := h.lv hl
 have hn := hp.n1
 have hnd := hp.nd1
 have hpl := hp.p1
 have e1 : rd t.W (p.q + 2 * t.cl.n + 1) / 2097152 = (p.nd : Int) := by rw [show p.q + 2 * t.cl.n + 1 = t.tk p + 1 from rfl, h2]; omega
 have e2 : rd t.W (p.q + 2 * t.cl.n + 1) % 2097152 = p.n := by rw [show p.q + 2 * t.cl.n + 1 = t.tk p + 1 from rfl, h2]; omega
 have e3 : st10 (rd t.W (p.q + 2 * t.cl.n)) = 2 := by rw [show p.q + 2 * t.cl.n = t.tk p from rfl, h1]; exact st10_pn _ 2 (by omega)
 have hb : lvB p.P.length t.W (p.q + 2 * t.cl.n) = true := by
  unfold lvB bodyOK
  rw [e1, e2, e3]
  simp
  omega
 unfold useT lvV lvN
 rw [hb, e1, e2]
 simp
theorem T12.used (hp : P12OK p) (h : T12 p W0 t) (hi : I12 p X t) (v : Nat) :
 usedN p.P t.W p.q p.K v = usedN p.P W0 p.q p.K v + (open Classical in if t.liv then (if undP p.P p.nd v = true then p.n else 0) else 0) := by
 classical
 have hcn := hi.cn
 unfold usedN
 by_cases hl : t.liv
 · rw [if_pos hl]
   have hk : ∀ k, k < p.K → useT p.P t.W p.q v k = useT p.P W0 p.q v k + (if k = t.cl.n then (if undP p.P p.nd v = true then p.n else 0) else 0) := by
    intro k hk
    by_cases e : k = t.cl.n
    · subst e
      have hph : 1 ≤ t.ph ∧ t.err ≠ 3 := by
       rcases hl with h5 | ⟨h6, h0⟩
       · have := hi.z (by omega) (by omega); omega
       · omega
      have h0 : useT p.P W0 p.q v t.cl.n = 0 := useT_no (by
       have := (h.fr hph.1 hph.2).1
       rw [show p.q + 2 * t.cl.n = t.tk p from rfl, this]; omega)
      rw [h0, if_pos rfl, useT_live hp h hl v]; omega
    · rw [if_neg e, Int.add_zero]
      exact useT_congr (h.ot _ (Or.inl (by omega)) (Or.inr (Or.inr (by unfold S12.tk; omega)))) (h.ot _ (Or.inl (by omega)) (Or.inr (Or.inr (by unfold S12.tk; omega))))
   rw [sumF_congr _ hk, sumF_add, sumF_one, if_pos hcn]
 · rw [if_neg hl, Int.add_zero]
   refine sumF_congr _ (fun k hk => ?_)
   by_cases e : t.ph = 0 ∨ t.err = 3
   · exact useT_congr (h.ot _ (Or.inl (by omega)) (by rcases e with e | e; exact Or.inl e; exact Or.inr (Or.inl e))) (h.ot _ (Or.inl (by omega)) (by rcases e with e | e; exact Or.inl e; exact Or.inr (Or.inl e)))
   · have hph : 1 ≤ t.ph ∧ t.err ≠ 3 := by omega
     by_cases ek : k = t.cl.n
     · subst ek
       have h0 : useT p.P W0 p.q v t.cl.n = 0 := useT_no (by
        have := (h.fr hph.1 hph.2).1
        rw [show p.q + 2 * t.cl.n = t.tk p from rfl, this]; omega)
       rw [h0]
       refine useT_no ?_
       rw [show p.q + 2 * t.cl.n = t.tk p from rfl]
       by_cases h4 : t.ph ≤ 4
       · rw [h.own hph.1 h4, (h.fr hph.1 hph.2).2, st10_pn _ 1 (by omega)]; omega
       · have hph6 := hi.ph
         unfold S12.liv at hl
         have h6 : t.ph = 6 := by omega
         have he : t.err = 4 := by
          rcases h.er with h' | h' | h'
          · exact absurd (Or.inr ⟨h6, h'⟩) hl
          · omega
          · exact h'.2
         rw [(h.e4 h6 he).1, st10_pn _ 0 (by omega)]; omega
     · exact useT_congr (h.ot _ (Or.inl (by omega)) (Or.inr (Or.inr (by unfold S12.tk; omega)))) (h.ot _ (Or.inl (by omega)) (Or.inr (Or.inr (by unfold S12.tk; omega))))
end
end Go.Proofs.YthaceckccobgeaaGreat

namespace Go.Proofs.YthaceckccobgeaaGreat
open Go.RowKit
set_option linter.unusedVariables false
set_option linter.unusedSimpArgs false
theorem pathN_nodup {P : List Int} (h : ParR P) : ∀ a, a < P.length → (pathN P a).Nodup := by
 intro a
 induction a using Nat.strongRecOn with
 | ind a ih =>
  intro ha
  rcases Nat.eq_zero_or_pos a with rfl | h0
  · rw [path_zero h ha]; simp
  · obtain ⟨b, hb, _, e⟩ := path_par h ha h0
    rw [e, List.nodup_cons]
    exact ⟨fun hm => by have := path_le h (show b < P.length by omega) hm; omega, ih b hb (by omega)⟩
section
variable {p : P12} {X : Int} {t : S12} {W0 : List Int}
structure R12 (p : P12) (X : Int) (W0 : List Int) (t : S12) : Prop where
 i : I12 p X t
 k : T12 p W0 t
 left : ∀ u, u < p.P.length → leftN t.W (p.av u) p.s = leftN W0 (p.av u) p.s + own12 p t u
theorem R12.start (hp : P12OK p) (h : WOK p X W0) (L : List Acc) : R12 p X W0 (start12 p W0 L) :=
 ⟨I12.start hp h, T12.start L, fun u hu => by rw [own12_0 rfl]; show leftN W0 _ _ = _; omega⟩
theorem R12.step (hp : P12OK p) (hnd : p.path.Nodup) (h : R12 p X W0 t) (hX : X ≤ 2199023255552) : R12 p (X + 1048576) W0 (n12 p t) := by
 refine ⟨I12.step hp h.i (by omega), h.k.step hp h.i, fun u hu => ?_⟩
 by_cases h6 : t.ph = 6
 · rw [I12.over h6]; exact h.left u hu
 · obtain ⟨a, _, ha⟩ := n12_acc hp hnd h.i (fun e => by rw [h.k.e2 e]; omega) hX h6
   obtain ⟨h1, h2⟩ := ha u hu
   rw [h2, h1, h.left u hu]
   omega
theorem go12_R (hp : P12OK p) (hnd : p.path.Nodup) (h : R12 p X W0 t) (n : Nat) : X + (n : Int) * 1048576 ≤ 2199023255552 → R12 p (X + (n : Int) * 1048576) W0 (go12 p t n) := by
 induction n with
 | zero =>
  intro _
  rw [show X + ((0 : Nat) : Int) * 1048576 = X from by simp]
  exact h
 | succ n ih =>
  intro hx
  rw [Int.natCast_succ, Int.add_mul, Int.one_mul] at hx ⊢
  have h2 := (ih (by omega)).step hp hnd (by omega)
  rw [← Int.add_assoc]
  exact h2
noncomputable def hold12 (p : P12) (t : S12) (u : Nat) : Int := -(own12 p t u) - (open Classical in if t.liv then (if u ∈ p.path then p.n else 0) else 0)
theorem pOwn_bd {av le : Nat} {n lm : Int} {x : PS} (h : PInv av le n lm X x) : 0 ≤ -(pOwn n x) ∧ -(pOwn n x) ≤ n + lm := by
 have hn := h.n1
 have hm := h.m1
 have h4 := h.s4
 have hx := h.nx
 unfold pOwn
 split
 · split <;> omega
 · split
   · have := h4 (by omega); omega
   · omega
theorem hold12_liv (h : t.liv) (u : Nat) : hold12 p t u = -(own12 p t u) - (if u ∈ p.path then p.n else 0) := by unfold hold12; rw [if_pos h]
theorem hold12_not (h : ¬ t.liv) (u : Nat) : hold12 p t u = -(own12 p t u) := by unfold hold12; rw [if_neg h]; omega
theorem liv_no (h5 : t.ph ≠ 5) (h6 : t.ph ≠ 6) : ¬ t.liv := fun h => by
 rcases h with h | ⟨h, _⟩
 · exact h5 h
 · exact h6 h
theorem hold12_bd (hp : P12OK p) (hnd : p.path.Nodup) (h : R12 p X W0 t) (u : Nat) : 0 ≤ hold12 p t u ∧ hold12 p t u ≤ (if u ∈ p.path then p.n + p.lm else 0) := by
 have hn := hp.n1
 have hl := hp.l1
 have hph := h.i.ph
 have zero : ∀ x : Int, x = 0 → 0 ≤ x ∧ x ≤ (if u ∈ p.path then p.n + p.lm else 0) := by
  rintro x rfl
  split <;> omega
 have take : ∀ x : Int, (x = 0 ∨ x = p.n ∧ u ∈ p.path) → 0 ≤ x ∧ x ≤ (if u ∈ p.path then p.n + p.lm else 0) := by
  rintro x (rfl | ⟨rfl, hu⟩)
  · exact zero 0 rfl
  · rw [if_pos hu]; omega
 have hc : t.ph = 0 ∨ t.ph = 1 ∨ t.ph = 2 ∨ t.ph = 3 ∨ t.ph = 4 ∨ t.ph = 5 ∨ t.ph = 6 := by omega
 rcases hc with e | e | e | e | e | e | e
 · rw [hold12_not (liv_no (by omega) (by omega)), own12_0 e]; exact zero _ rfl
 · rw [hold12_not (liv_no (by omega) (by omega)), own12_1 e]
   obtain ⟨ha, hpi, _⟩ := h.i.pi e
   have hb := pOwn_bd hpi
   have hpo : pOwn p.n t.pl = pOwn p.n t.po := rfl
   rw [hpo] at hb
   have hv : p.v t.at_ = p.path[t.at_] := v_eq ha
   by_cases hu : u = p.v t.at_
   · have h1 : u ∈ p.path := by rw [hu, hv]; exact List.getElem_mem _
     have h2 : u ∉ p.path.take t.at_ := by rw [hu, hv]; exact nodup_take hnd ha
     rw [if_neg h2, if_pos hu, if_pos h1]
     omega
   · rw [if_neg hu]
     by_cases h2 : u ∈ p.path.take t.at_
     · rw [if_pos h2]; exact take _ (Or.inr ⟨by omega, List.mem_of_mem_take h2⟩)
     · rw [if_neg h2]; exact zero _ (by omega)
 · rw [hold12_not (liv_no (by omega) (by omega)), own12_2 e]
   by_cases h2 : u ∈ p.path.take t.at_
   · rw [if_pos h2]; exact take _ (Or.inr ⟨by omega, List.mem_of_mem_take h2⟩)
   · rw [if_neg h2]; exact zero _ (by omega)
 · rw [hold12_not (liv_no (by omega) (by omega)), own12_3 (by omega) (by omega) (by omega) (by omega)]
   by_cases hu : u ∈ p.path
   · rw [if_pos hu]; exact take _ (Or.inr ⟨by omega, hu⟩)
   · rw [if_neg hu]; exact zero _ (by omega)
 · rw [hold12_not (liv_no (by omega) (by omega)), own12_3 (by omega) (by omega) (by omega) (by omega)]
   by_cases hu : u ∈ p.path
   · rw [if_pos hu]; exact take _ (Or.inr ⟨by omega, hu⟩)
   · rw [if_neg hu]; exact zero _ (by omega)
 · rw [hold12_liv (Or.inl e), own12_3 (by omega) (by omega) (by omega) (by omega)]
   refine zero _ ?_
   split <;> omega
 · exact zero _ (by
    by_cases h0 : t.err = 0
    · rw [hold12_liv (Or.inr ⟨e, h0⟩), own12_6 e]
      by_cases hu : u ∈ p.path
      · rw [if_pos ⟨h0, hu⟩, if_pos hu]; omega
      · rw [if_neg (fun h => hu h.2), if_neg hu]; omega
    · rw [hold12_not (fun h => by rcases h with h | ⟨_, h⟩; omega; exact h0 h), own12_6 e, if_neg (fun h => h0 h.1)]; omega)
theorem hold12_end (e : t.ph = 6) (u : Nat) : hold12 p t u = 0 := by
 by_cases h0 : t.err = 0
 · rw [hold12_liv (Or.inr ⟨e, h0⟩), own12_6 e]
   by_cases hu : u ∈ p.path
   · rw [if_pos ⟨h0, hu⟩, if_pos hu]; omega
   · rw [if_neg (fun h => hu h.2), if_neg hu]; omega
 · rw [hold12_not (fun h => by rcases h with h | ⟨_, h⟩; omega; exact h0 h), own12_6 e, if_neg (fun h => h0 h.1)]; omega
theorem R12.sum (hp : P12OK p) (hpath : p.path = pathN p.P p.nd) (h : R12 p X W0 t) (u : Nat) (hu : u < p.P.length) :
 leftN t.W (p.av u) p.s + usedN p.P t.W p.q p.K u + hold12 p t u = leftN W0 (p.av u) p.s + usedN p.P W0 p.q p.K u := by
 rw [h.left u hu, h.k.used hp h.i u]
 unfold hold12
 have e : (undP p.P p.nd u = true) ↔ u ∈ p.path := by rw [hpath]; unfold undP; simp
 simp only [e]
 omega
theorem R12.limit (hp : P12OK p) (h : R12 p X W0 t) (u : Nat) (hu : u < p.P.length) (hq : p.s ≤ 8) : rd t.W (p.li u) = rd W0 (p.li u) := by
 have hl : p.li u < p.q := by
  unfold P12.li P12.q
  have := node_lt (v := u) (n := p.P.length) (e := 6 + 2 * p.s) (o := 0) hu (by omega)
  omega
 exact h.k.ot _ (Or.inr ⟨u, hu, rfl⟩) (Or.inr (Or.inr (by unfold S12.tk; omega)))
end
end Go.Proofs.YthaceckccobgeaaGreat

namespace Go.Proofs.YthaceckccobgeaaGreat
open Go.RowKit
set_option linter.unusedVariables false
set_option linter.unusedSimpArgs false
section
variable {b s : Nat} {g d : Int}
def nd6 (t : AS) : Nat :=
 match t.st with
 | 0 => 6
 | 1 => 5
 | 2 => if rd t.W t.sp = t.w then 1 else 8
 | 3 => if rd t.W t.sp = t.w then 4 else 10
 | 4 => if rd t.W t.sp = t.w then 3 else 9
 | 5 => 2
 | 6 => 1
 | 7 => 8
 | 8 => 7
 | _ => 0
theorem nd6_miss (s : Nat) (t : AS) : nd6 (aMiss s t) ≤ 7 := by
 unfold aMiss
 split <;> simp [nd6]
theorem nd6_step {t : AS} (h : AInv b s g d t) (h9 : t.st ≠ 9) : nd6 (aNext b s g d t) + 1 ≤ nd6 t := by
 obtain ⟨W, L, st, x, lv, sp, w, v⟩ := t
 obtain ⟨ln, wl, s1, g1, d1, lw, xb, nx, lb, pb, vb, gr⟩ := h
 simp only at *
 rcases st_cases nx with rfl | rfl | rfl | rfl | rfl | rfl | rfl | rfl | rfl | rfl
 · simp [aNext, nd6]
 · simp only [aNext]
   split <;> simp [nd6]
 · by_cases hq : rd W sp = w
   · have e : aNext b s g d ⟨W, L, 2, x, lv, sp, w, v⟩ = ⟨casW W sp w (pNext6 w v), L ++ [⟨3, sp, w, pNext6 w v, rd W sp == w⟩], 9, x, lv, sp, w, v⟩ := by simp [aNext, hq]
     rw [e]; simp [nd6, hq]
   · have e : aNext b s g d ⟨W, L, 2, x, lv, sp, w, v⟩ = aMiss s ⟨casW W sp w (pNext6 w v), L ++ [⟨3, sp, w, pNext6 w v, rd W sp == w⟩], 2, x, lv, sp, w, v⟩ := by simp [aNext, hq]
     rw [e]
     have := nd6_miss s ⟨casW W sp w (pNext6 w v), L ++ [⟨3, sp, w, pNext6 w v, rd W sp == w⟩], 2, x, lv, sp, w, v⟩
     simp only [nd6, if_neg hq] at *
     omega
 · have pb' := pb (by omega) (by omega)
   have e : rd (W.set (b + 1) (wrap64 (rd W (b + 1) + 1))) sp = rd W sp := by rw [rd_set, if_neg (by omega)]
   simp only [aNext, nd6, e]
   split <;> omega
 · simp only [aNext]
   by_cases hq : rd W sp = w
   · simp [nd6, hq]
   · simp [nd6, hq]
 · simp [aNext, nd6]
 · simp [aNext, nd6]
 · simp only [aNext]
   have := nd6_miss s ⟨W.set (b + 2) (wrap64 (rd W (b + 2) + 1)), L ++ [⟨2, (b + 2 : Nat), 1, wrap64 (rd W (b + 2) + 1), false⟩], 7, x, lv, sp, w, v⟩
   simp only [nd6] at *
   omega
 · simp [aNext, nd6]
 · exact absurd rfl h9
end
section
variable {p : P12} {X : Int} {t : S12} {W0 : List Int}
def cNd (K : Nat) (t : CS) : Nat := 2 * (K - t.j) - (if t.seen = true then 1 else 0)
theorem cNd_step {K s q : Nat} {t : CS} (h : CInv K q t) (hf : t.fin = 0) : cNd K (cNext K s q t) + 1 ≤ cNd K t ∨ (cNext K s q t).fin ≠ 0 := by
 have hj := h.jb (by omega)
 unfold cNext
 rw [if_pos hf]
 cases hs : t.seen with
 | false =>
  rw [if_pos rfl]
  split
  · left
    show 2 * (K - t.j) - 1 + 1 ≤ 2 * (K - t.j) - (if t.seen = true then 1 else 0)
    rw [hs]; simp; omega
  · left
    show 2 * (K - (t.j + 1)) - 0 + 1 ≤ 2 * (K - t.j) - (if t.seen = true then 1 else 0)
    rw [hs]; simp; omega
 | true =>
  rw [if_neg (by simp)]
  split
  · right; simp
  · left
    show 2 * (K - (t.j + 1)) - 0 + 1 ≤ 2 * (K - t.j) - (if t.seen = true then 1 else 0)
    rw [hs]; simp; omega
theorem cNd_pos {K q : Nat} {t : CS} (h : CInv K q t) (hf : t.fin = 0) : 1 ≤ cNd K t := by
 have hj := h.jb (by omega)
 unfold cNd
 split <;> omega
def need12 (p : P12) (t : S12) : Nat :=
 if t.ph = 0 then cNd p.K t.cl + 18 * p.path.length + 10
 else if t.ph = 1 then pNeed (p.av (p.v t.at_)) (p.le (p.v t.at_) p.u) t.pl + 7 * (p.path.length - t.at_ - 1) + 2 + 11 * p.path.length
 else if t.ph = 2 then t.at_ + 1
 else if t.ph = 3 then 2 + 11 * p.path.length
 else if t.ph = 4 then 1 + 11 * p.path.length
 else if t.ph = 5 then nd6 t.a + 11 * (p.path.length - t.at_ - 1)
 else 0
theorem nd12_0 (e : t.ph = 0) : need12 p t = cNd p.K t.cl + 18 * p.path.length + 10 := by unfold need12; rw [if_pos e]
theorem nd12_1 (e : t.ph = 1) : need12 p t = pNeed (p.av (p.v t.at_)) (p.le (p.v t.at_) p.u) t.pl + 7 * (p.path.length - t.at_ - 1) + 2 + 11 * p.path.length := by unfold need12; rw [if_neg (by omega), if_pos e]
theorem nd12_2 (e : t.ph = 2) : need12 p t = t.at_ + 1 := by unfold need12; rw [if_neg (by omega), if_neg (by omega), if_pos e]
theorem nd12_3 (e : t.ph = 3) : need12 p t = 2 + 11 * p.path.length := by unfold need12; rw [if_neg (by omega), if_neg (by omega), if_neg (by omega), if_pos e]
theorem nd12_4 (e : t.ph = 4) : need12 p t = 1 + 11 * p.path.length := by unfold need12; rw [if_neg (by omega), if_neg (by omega), if_neg (by omega), if_neg (by omega), if_pos e]
theorem nd12_5 (e : t.ph = 5) : need12 p t = nd6 t.a + 11 * (p.path.length - t.at_ - 1) := by unfold need12; rw [if_neg (by omega), if_neg (by omega), if_neg (by omega), if_neg (by omega), if_neg (by omega), if_pos e]
theorem nd12_6 (e : t.ph = 6) : need12 p t = 0 := by unfold need12; rw [if_neg (by omega), if_neg (by omega), if_neg (by omega), if_neg (by omega), if_neg (by omega), if_neg (by omega)]
theorem need12_step (hp : P12OK p) (h : I12 p X t) (h6 : t.ph ≠ 6) : need12 p (n12 p t) + 1 ≤ need12 p t := by
 have hph := h.ph
 have hlen := hp.h1
 have hc : t.ph = 0 ∨ t.ph = 1 ∨ t.ph = 2 ∨ t.ph = 3 ∨ t.ph = 4 ∨ t.ph = 5 := by omega
 rcases hc with e | e | e | e | e | e
 · obtain ⟨hci, hfin, hat⟩ := h.ci e
   have h1 := cNd_step (s := p.th) hci hfin
   have h2 := cNd_pos hci hfin
   rw [n12_0 e, nd12_0 e]
   have e1 : cNd p.K t.c = cNd p.K t.cl := rfl
   rw [e1] at h1 h2
   generalize cNext p.K p.th p.q t.c = x at *
   by_cases c0 : x.fin = 0
   · rw [claimed12_go (by exact c0), nd12_0 (by exact e)]
     have h3 : cNd p.K x + 1 ≤ cNd p.K t.cl := by omega
     show cNd p.K x + 18 * p.path.length + 10 + 1 ≤ _
     omega
   · by_cases c2 : x.fin = 2
     · rw [claimed12_none (by exact c2), nd12_6 rfl]; omega
     · rw [claimed12_has (by exact c0) (by exact c2), nd12_1 rfl]
       show 5 + 7 * (p.path.length - t.at_ - 1) + 2 + 11 * p.path.length + 1 ≤ _
       omega
 · obtain ⟨ha, hpi, hn7⟩ := h.pi e
   have h1 := pNeed_step (n := p.n) (lim := p.lm) (av := p.av (p.v t.at_)) (le := p.le (p.v t.at_) p.u) (t := t.pl) hn7
   rw [n12_1 e, nd12_1 e]
   generalize pNext (p.av (p.v t.at_)) (p.le (p.v t.at_) p.u) p.n p.lm t.pl = x at *
   by_cases c7 : x.next = 7
   · by_cases cb : x.bad = true
     · rw [pooled12_bad (by exact c7) (by exact cb), nd12_2 rfl]
       show t.at_ + 1 + 1 ≤ _
       omega
     · by_cases cl : t.at_ + 1 = p.path.length
       · rw [pooled12_last (by exact c7) (by exact cb) (by exact cl), nd12_3 rfl]; omega
       · rw [pooled12_more (by exact c7) (by exact cb) (by exact cl), nd12_1 (by exact e)]
         show 5 + 7 * (p.path.length - (t.at_ + 1) - 1) + 2 + 11 * p.path.length + 1 ≤ _
         omega
   · rw [pooled12_go (by exact c7), nd12_1 (by exact e)]
     show pNeed (p.av (p.v t.at_)) (p.le (p.v t.at_) p.u) x + 7 * (p.path.length - t.at_ - 1) + 2 + 11 * p.path.length + 1 ≤ _
     omega
 · rw [nd12_2 e]
   by_cases c : 0 < t.at_
   · rw [n12_2 e c, nd12_2 (by exact e)]
     show t.at_ - 1 + 1 + 1 ≤ _
     omega
   · rw [n12_2z e c, nd12_6 rfl]; omega
 · rw [n12_3 e, nd12_3 e, nd12_4 rfl]; omega
 · rw [n12_4 e, nd12_4 e, nd12_5 rfl]
   show 6 + 11 * (p.path.length - 0 - 1) + 1 ≤ _
   omega
 · obtain ⟨ha, hai, h9, _⟩ := h.ai e
   have h1 := nd6_step hai h9
   rw [n12_5 e, nd12_5 e]
   generalize aNext (p.ct (p.v t.at_)) p.s p.g p.n t.a = x at *
   by_cases c9 : x.st = 9
   · by_cases cl : t.at_ + 1 < p.path.length
     · rw [added12_more (by exact c9) (by exact cl), nd12_5 (by exact e)]
       show 6 + 11 * (p.path.length - (t.at_ + 1) - 1) + 1 ≤ _
       omega
     · rw [added12_last (by exact c9) (by exact cl), nd12_6 rfl]; omega
   · rw [added12_go (by exact c9), nd12_5 (by exact e)]
     show nd6 x + 11 * (p.path.length - t.at_ - 1) + 1 ≤ _
     omega
theorem need12_start (hp : P12OK p) (W : List Int) (L : List Acc) : need12 p (start12 p W L) ≤ 258 := by
 have hk := hp.k1
 have hl := hp.h1
 rw [nd12_0 rfl]
 have : cNd p.K (start12 p W L).cl ≤ 2 * p.K := by unfold cNd; exact Nat.le_trans (Nat.sub_le _ _) (by omega)
 omega
theorem go12_need (hp : P12OK p) (h : I12 p X t) (n : Nat) : X + (n : Int) * 1048576 ≤ 4398046511104 → (go12 p t n).ph = 6 ∨ need12 p (go12 p t n) + n ≤ need12 p t := by
 induction n with
 | zero => intro _; exact Or.inr (Nat.le_refl _)
 | succ n ih =>
  intro hx
  rw [Int.natCast_succ, Int.add_mul, Int.one_mul] at hx
  have h1 := go12_I hp h n (by omega)
  rcases ih (by omega) with h2 | h2
  · left
    rw [go12, I12.over h2]; exact h2
  · by_cases h6 : (go12 p t n).ph = 6
    · left; rw [go12, I12.over h6]; exact h6
    · right
      have h3 := need12_step hp h1 h6
      rw [go12]
      omega
theorem go12_done (hp : P12OK p) {L : List Acc} (h : WOK p X W0) (n : Nat) (hn : 259 ≤ n) (hX : X + (n : Int) * 1048576 ≤ 4398046511104) : (go12 p (start12 p W0 L) n).ph = 6 := by
 rcases go12_need hp (I12.start hp (L := L) h) n hX with h1 | h1
 · exact h1
 · have := need12_start hp W0 L
   omega
end
end Go.Proofs.YthaceckccobgeaaGreat
