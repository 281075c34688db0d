/- Contracts and plain laws for UsageWay, part 1: what the walk of the law leans on. -/
import Derived.RegionTactic
import Derived.ChangeAlike
import Derived.Deep.RegionLaw
import Derived.Test.YthaceckccobgeaaGreatZUsageWay0
namespace Go.Proofs.YthaceckccobgeaaGreat
open Go.RowKit
structure Acc where
 kind : Int
 w : Int
 a : Int
 b : Int
 ok : Bool
deriving DecidableEq
def Acc.cells (x : Acc) : List Value := [.int .i64 x.kind, .int .i64 x.w, .int .i64 x.a, .int .i64 x.b, .bool x.ok]
def accs (l : List Acc) : List Value := l.flatMap Acc.cells
def ints (l : List Int) : List Value := l.map (.int .i64)
abbrev i64 (x : Int) : Value := .int .i64 x
abbrev ptr (b : Nat) : Value := .pointer (some ⟨b, 0, none⟩)
structure MemAt (B : Nat) (w : World) (m a : Nat) (lv : Value) (W : List Int) (L : List Acc) : Prop where
 base : B ≤ w.heap.size
 bm : B ≤ m
 ba : B ≤ a
 mem : Blk w m 106 [.slice (some ⟨a, 0, none⟩) W.length W.length, lv]
 words : Blk w a 3 (ints W)
 log : w.ownsRow B 112 5 lv L.length (accs L)
def rd (W : List Int) (i : Nat) : Int := W.getD i 0
theorem ints_get (W : List Int) (i : Nat) (h : i < W.length) : (ints W)[i]? = some (.int .i64 (rd W i)) := by
 simp [ints, h, List.getD, rd]
theorem info_int : (Tryz.prog.info? 3).map (fun i => (i.zero, i.size, i.bytes)) = some (some (.int .i64 0), 1, 8) := by kernel_rfl
theorem info_acc : (Tryz.prog.info? 112).map (fun i => (i.zero, i.size, i.bytes)) = some (some (.agg #[.int .i64 0, .int .i64 0, .int .i64 0, .int .i64 0, .bool false]), 5, 40) := by kernel_rfl
theorem made_ints (n : Nat) : madeCells (Value.int .i64 0).cells n = (ints (List.replicate n 0)).toArray := by
 apply Array.ext
 · simp [madeCells, ints]
 · intro i h1 h2
   have e : i % 1 = 0 := Nat.mod_one i
   simp [madeCells, Value.cells, ints, e]
set_option maxHeartbeats 400000 in
theorem mem_New (B : Nat) (n : Int) (w : World) (hB : B ≤ w.heap.size) (h0 : 0 ≤ n) (h1 : n ≤ 10000) :
 Calls Tryz.prog 73 #[.int .i64 n] w fun e w' => ∃ m a lv, e = .returned (ptr m) ∧ MemAt B w' m a lv (List.replicate n.toNat 0) [] ∧ Keep (fun _ => False) w w' ∧ w.heap.size ≤ m ∧ w.heap.size ≤ a := by
 obtain ⟨n, rfl⟩ := Int.eq_ofNat_of_zero_le h0
 obtain ⟨i0, hi, hz0, hz1, hz2⟩ := info_parts info_int
 have hmk := fun w => run_make (P := Tryz.prog) w 22 3 i0 (.int .i64 0) Tryz.underlying22 hi hz0 .i64 .i64 n n (by omega) (by omega) (by rw [hz2]; omega) (by omega)
 simp only [hz1, Nat.mul_one, made_ints, Int.toNat_natCast] at hmk
 clear hi hz0 hz1 hz2
 go_enter Tryz.func73, Tryz.ntmps73
 go_wp2
 go_ret
 refine ⟨_, w.heap.size, _, rfl, ⟨?_, ?_, hB, Blk.made (by simp) (by simp), (Blk.made rfl rfl).alloc _, World.ownsRow_nil _ _ _ _⟩, ((Keep.refl _ _).alloc _).alloc _, ?_, Nat.le_refl _⟩
 all_goals first | exact Nat.le_refl _ | (simp; omega) | simp | omega
theorem ownsRow_other {w : World} {base : Nat} {e : TypeId} {size : Nat} {v : Value} {n : Nat} {xs : List Value} (h : w.ownsRow base e size v n xs) {a : Addr} (u : Value) (ha : v.ownBlock ≠ some a.block) : (w.setCell a u).ownsRow base e size v n xs := by
 obtain ⟨h1, h2⟩ := h
 refine ⟨h1, ?_⟩
 rcases h2 with hn | ⟨g, cap, cur, rfl, hb, hgg, rest⟩
 · exact .inl hn
 · refine .inr ⟨g, cap, cur, rfl, hb, ?_, rest⟩
   rw [Below.heap_setCell _ _ _ _ (by simpa [Value.ownBlock] using ha)]
   exact hgg
theorem step_append_own {P : Program} {ops : Array Oper} {o : Oper} {a : Act} {w : World} {K : Act → World → Prop} {Q : Exit → Act → World → Prop} {E : Prop}
 (hgd : o.guard = none) (s x : Operand) (t : TypeId)
 (ho : o.op = .call { callee := .builtin .append, args := #[s, x], argTypes := #[t, t] })
 (base : Nat) (e : TypeId) (i : TypeInfo) (z : Value) (size bytes : Nat) (ht : P.underlying t = some (.slice e)) (hi : P.info? e = some i) (hz : i.zero = some z)
 (hsize : i.size = size) (hby : i.bytes = bytes) (hzs : z.cells.size = size) (hsz : 0 < size)
 (v : Value) (n : Nat) (xs : List Value) (hs : a.eval s = v) (hown : w.ownsRow base e size v n xs)
 (ad : Addr) (m c : Nat) (news : List Value) (hx : a.eval x = .slice (some ad) m c) (hl : news.length = m * size) (hnews : ∀ j u, news[j]? = some u → w.cell? (ad.add j) = some u) (h1 : ∀ u ∈ news, u.oneCell' = true)
 (h63 : n + m ≤ maxLen) (hbytes : (n + m) * bytes ≤ 140737488355328) (hbase : base ≤ w.heap.size)
 (h : ∀ A c' w', w'.ownsRow base e size (.slice A (n + m) c') (n + m) (xs ++ news) → w.grownBy w' v.ownBlock → ((∀ k, (Value.slice A (n + m) c').ownBlock = some k → v.ownBlock = some k ∨ w.heap.size ≤ k) ∧ (A = none → v = .slice none 0 0 ∧ m = 0)) → K (a.put o.dst (.slice A (n + m) c')) w') :
 if Region.wanted o (yielded ops a.tmps) = true then Oper.wp P o a w K Q else E := by
 have hw : Region.wanted o (yielded ops a.tmps) = true := by simp [Region.wanted, hgd]
 rw [if_pos hw]
 obtain ⟨v', w', hr, h2, h3, h4⟩ := run_append_own (P := P) w base t o.type e i z size bytes ht hi hz hsize hby hzs hsz v n xs hown ad m c news hl hnews h1 h63 hbytes hbase
 have hnew : ∀ k, v'.ownBlock = some k → v.ownBlock = some k ∨ w.heap.size ≤ k := by
  intro k hk
  have hwas := hown
  rcases hwas.2 with ⟨rfl, rfl⟩ | ⟨g, cap, cur, rfl, _, hgg, hnc, _, hcs, _⟩
  · have hx0 : xs = [] := List.eq_nil_of_length_eq_zero (by simpa using hwas.1)
    subst hx0
    obtain ⟨v2, w2, hr2, h22, _, _⟩ := run_append_own (P := P) w w.heap.size t o.type e i z size bytes ht hi hz hsize hby hzs hsz _ 0 [] (World.ownsRow_nil _ _ _ _) ad m c news hl hnews h1 h63 hbytes (Nat.le_refl _)
    rw [hr] at hr2
    obtain ⟨rfl, rfl⟩ := Result.ok.inj hr2
    exact Or.inr (h22.lt k hk).1
  · subst hsize
    subst hby
    by_cases hroom : n + m ≤ cap
    · have hr2 := run_append_room (P := P) w t o.type e i ht hi g n cap cur hgg ad m c news hl hnews h1 hroom (by rw [hl, hcs, ← Nat.add_mul]; exact Nat.mul_le_mul_right _ hroom)
      rw [hr] at hr2
      obtain ⟨rfl, rfl⟩ := Result.ok.inj hr2
      exact Or.inl hk
    · have hr2 := run_append_grow (P := P) w t o.type e i z ht hi hz ⟨g, 0, none⟩ n cap xs hwas.1 (hwas.cells (g := g) rfl) ad m c news hl hnews (by omega) (by unfold maxLen at h63; omega) (growslice_fits (by omega) hbytes)
      rw [hr] at hr2
      obtain ⟨rfl, rfl⟩ := Result.ok.inj hr2
      simp [Value.ownBlock] at hk
      exact Or.inr (by omega)
 have hgo : K (a.put o.dst v') w' := by
  rcases h2.2 with ⟨rfl, hn⟩ | ⟨g, cap, cur, rfl, _⟩
  · have e0 : n + m = 0 := hn
    rw [e0] at h2
    have := h none 0 w' (by rw [e0]; exact h2) h3 ⟨fun k hk => by simp [Value.ownBlock] at hk, fun _ => h4.1 rfl⟩
    rw [e0] at this
    exact this
  · exact h _ _ w' h2 h3 ⟨hnew, fun e => by cases e⟩
 unfold Oper.wp execOp
 simp only [ho, resolve, invoke, builtin, Sem.run_bind, Sem.run_pure, Result.andThen_ok, List.map_toArray, List.map_cons, List.map_nil, hs, hx, hr]
 exact hgo
theorem accs_snoc (L : List Acc) (x : Acc) : accs (L ++ [x]) = accs L ++ x.cells := by simp [accs]
theorem cell_old {w w' : World} {S : Nat → Prop} (h : Keep S w w') {b : Nat} (hb : b < w.heap.size) (hn : ¬ S b) (o : Nat) : w'.cell? ⟨b, o, none⟩ = w.cell? ⟨b, o, none⟩ := World.cell?_of_block (w := w) (h.block b hb hn)
theorem grown_blk {w w' : World} {row : Option Nat} (hg : w.grownBy w' row) {b : Nat} {t : TypeId} {cs : List Value} (h : Blk w b t cs) (hne : some b ≠ row) : Blk w' b t cs := by
 have hl := h.lt
 unfold Blk at *
 rw [hg.block b hl hne]
 exact h
theorem ownBlock_ne {w : World} {base : Nat} {e : TypeId} {size : Nat} {v : Value} {n : Nat} {xs : List Value} (h : w.ownsRow base e size v n xs) {b : Nat} {t : TypeId} {cs : List Value} (hb : Blk w b t cs) (ht : t ≠ e) : some b ≠ v.ownBlock := by
 rcases h.2 with ⟨rfl, _⟩ | ⟨g, cap, cur, rfl, _, hgg, _⟩
 · simp [Value.ownBlock]
 · intro e'
   simp [Value.ownBlock] at e'
   subst e'
   unfold Blk at hb
   rw [hb] at hgg
   simp at hgg
   exact ht hgg.2
theorem ownsRow_keep {S : Nat → Prop} {w w' : World} {base : Nat} {e : TypeId} {size : Nat} {v : Value} {n : Nat} {xs : List Value} (h : w.ownsRow base e size v n xs) (hk : Keep S w w') (hn : ∀ k, v.ownBlock = some k → ¬ S k) : w'.ownsRow base e size v n xs := by
 obtain ⟨h1, h2⟩ := h
 refine ⟨h1, ?_⟩
 rcases h2 with hn' | ⟨g, cap, cur, rfl, hb, hgg, rest⟩
 · exact .inl hn'
 · refine .inr ⟨g, cap, cur, rfl, hb, ?_, rest⟩
   rw [hk.block g (Array.getElem?_eq_some_iff.1 hgg).1 (hn g (by simp [Value.ownBlock]))]
   exact hgg
theorem Keep.grown {S : Nat → Prop} {w w' w'' : World} (h : Keep S w w') {row : Option Nat} (hg : w'.grownBy w'' row) (hr : ∀ k, k < w.heap.size → row = some k → S k) : Keep S w w'' :=
 ⟨hg.os.trans h.os, hg.tape.trans h.tape, hg.output.trans h.output, Nat.le_trans h.size hg.size, fun k hk hn =>
  (hg.block k (Nat.lt_of_lt_of_le hk h.size) (fun e => hn (hr k hk e.symm))).trans (h.block k hk hn)⟩
theorem news_at {w : World} {b : Nat} {t : TypeId} {cs : List Value} (h : Blk w b t cs) : ∀ (j : Nat) (u : Value), cs[j]? = some u → w.cell? ((⟨b, 0, none⟩ : Addr).add j) = some u := by
 intro j u hj
 have e : (⟨b, 0, none⟩ : Addr).add j = ⟨b, j, none⟩ := by unfold Addr.add; split <;> simp_all
 rw [e, h.cell j, hj]
def MF (m a : Nat) (lv : Value) (k : Nat) : Prop := k = m ∨ k = a ∨ lv.ownBlock = some k
theorem access_close {B : Nat} {w w2 w3 w4 : World} {m a : Nat} {lv : Value} {W W' : List Int} {L : List Acc} {x : Acc} {A : Option Addr} {c' : Nat} {o : Obj}
 (hm : MemAt B w m a lv W L) (hW' : W'.length = W.length) (hk2 : Keep (fun k => k = a) w w2) (ha2 : Blk w2 a 3 (ints W'))
 (hg : (w2.alloc o).drew.grownBy w3 lv.ownBlock) (ho : w3.ownsRow B 112 5 (.slice A (L.length + 1) c') (L.length + 1) (accs L ++ x.cells))
 (hsl : ∀ k, (Value.slice A (L.length + 1) c').ownBlock = some k → lv.ownBlock = some k ∨ w2.heap.size ≤ k)
 (hk4 : Keep (fun k => k = m ∨ k = w.heap.size) w3 w4) (hr : w.heap.size < w2.heap.size) (hm4 : Blk w4 m 106 [.slice (some ⟨a, 0, none⟩) W.length W.length, .slice A (L.length + 1) c']) :
 MemAt B w4 m a (.slice A (L.length + 1) c') W' (L ++ [x]) ∧ Keep (MF m a lv) w w4 ∧ (∀ k, (Value.slice A (L.length + 1) c').ownBlock = some k → lv.ownBlock = some k ∨ w.heap.size ≤ k) := by
 have hml := hm.mem.lt
 have hal := hm.words.lt
 have hma := hm.mem.ne hm.words (by decide)
 have hmo := ownBlock_ne hm.log hm.mem (by decide)
 have hao := ownBlock_ne hm.log hm.words (by decide)
 have hk3 : Keep (MF m a lv) w w3 := Keep.grown (w' := (w2.alloc o).drew) ((hk2.mono (fun k hk => Or.inr (Or.inl hk))).alloc _).drew hg (fun k _ hr => Or.inr (Or.inr hr))
 have hk : Keep (MF m a lv) w w4 := hk3.trans hk4 (by
  rintro k hk (rfl | rfl)
  · exact Or.inl rfl
  · omega)
 have ha4 : Blk w4 a 3 (ints W') := hk4.blk (grown_blk hg (Blk.drew (ha2.alloc _)) hao) (by omega)
 have hlog : w4.ownsRow B 112 5 (.slice A (L.length + 1) c') (L.length + 1) (accs L ++ x.cells) := by
  refine ownsRow_keep ho hk4 ?_
  intro k hkk hS
  rcases hsl k hkk with h | h
  · rcases hS with rfl | rfl
    · exact hmo h.symm
    · have := (hm.log.lt _ h).2; omega
  · rcases hS with rfl | rfl
    · have := hk2.size; omega
    · omega
 refine ⟨⟨Nat.le_trans hm.base hk.size, hm.bm, hm.ba, ?_, ha4, ?_⟩, hk, ?_⟩
 · rw [hW']; exact hm4
 · rw [List.length_append, accs_snoc]; exact hlog
 · intro k hkk
   rcases hsl k hkk with h | h
   · exact Or.inl h
   · exact Or.inr (by omega)
set_option maxHeartbeats 1000000 in
theorem mem_access (B : Nat) (w : World) (m a : Nat) (lv : Value) (W W' : List Int) (L : List Acc) (i : Nat) (kind A' B' : Int) (ok' : Bool) (F : FuncId) (caps : Array Value)
 (hm : MemAt B w m a lv W L) (hi : i < W.length) (hL : L.length ≤ 1000000000) (hW' : W'.length = W.length)
 (hF : ∀ (args : Array Value) (w : World), (callFunc F args).run Tryz.prog w = .ok (.enter F args) w)
 (hdo : ∀ w1 c, Keep (fun _ => False) w w1 → w.heap.size ≤ c → Blk w1 c 112 [i64 kind, i64 i, i64 0, i64 0, .bool false] →
  Calls Tryz.prog F (#[.pointer (some ⟨a, i, none⟩), ptr c] ++ caps) w1 fun e w2 => e = .returned (.tuple #[]) ∧ Blk w2 c 112 [i64 kind, i64 i, i64 A', i64 B', .bool ok'] ∧ Blk w2 a 3 (ints W') ∧ Keep (fun k => k = a ∨ k = c) w1 w2) :
 Calls Tryz.prog 141 #[ptr m, i64 kind, i64 i, .func (.func F) #[] caps] w fun e w' =>
  e = .returned (.agg #[i64 kind, i64 i, i64 A', i64 B', .bool ok']) ∧ ∃ lv', MemAt B w' m a lv' W' (L ++ [⟨kind, i, A', B', ok'⟩]) ∧ Keep (MF m a lv) w w' ∧ (∀ k, lv'.ownBlock = some k → lv.ownBlock = some k ∨ w.heap.size ≤ k) := by
 obtain ⟨i0, hti, hz0, hz1, hz2⟩ := info_parts info_acc
 have hm0 : w.cell? ⟨m, 0, none⟩ = some (.slice (some ⟨a, 0, none⟩) W.length W.length) := hm.mem.cell 0
 have hml := hm.mem.lt
 have hal := hm.words.lt
 have hmls := lts hml
 have hma := hm.mem.ne hm.words (by decide)
 have HM := hid hm
 have HI := hid (show Hid (Hid (Tryz.prog.info? 112 = some i0)) from hti)
 clear hm
 go_enter Tryz.func141, Tryz.ntmps141
 go_wp2_with fail
 refine (hdo _ _ (((Keep.refl _ _).alloc _).alloc _) (by omega) (Blk.made (by simp) rfl)).mono ?_
 rintro e w2 ⟨rfl, hc2, ha2, hk2⟩
 have hk02 : Keep (fun k => k = a) w w2 := (((Keep.refl _ w).alloc _).alloc _).trans hk2 (by
  rintro k hk (rfl | rfl)
  · rfl
  · omega)
 have hr2 := hk2.blk (b := w.heap.size) ((Blk.made (w := w) rfl rfl).alloc _) (by omega)
 have hm2 := hk02.blk HM.out.mem hma
 have ho2 := ownsRow_keep HM.out.log hk02 (fun k hk e => ownBlock_ne HM.out.log HM.out.words (by decide) (by rw [hk, e]))
 have hcz2 := lts hc2.lt
 have cc0 : w2.cell? ⟨w.heap.size + 1, 0, none⟩ = some (i64 kind) := hc2.cell 0
 have cc1 : w2.cell? ⟨w.heap.size + 1, 1, none⟩ = some (i64 i) := hc2.cell 1
 have cc2 : w2.cell? ⟨w.heap.size + 1, 2, none⟩ = some (i64 A') := hc2.cell 2
 have cc3 : w2.cell? ⟨w.heap.size + 1, 3, none⟩ = some (i64 B') := hc2.cell 3
 have cc4 : w2.cell? ⟨w.heap.size + 1, 4, none⟩ = some (.bool ok') := hc2.cell 4
 have cm1 : w2.cell? ⟨m, 1, none⟩ = some lv := hm2.cell 1
 have cml := lts hm2.lt
 have cml0 := hm2.lt
 clear hm0 hml hmls
 have HK := hid hk02
 have HR2 := hid hr2
 have HC2 := hid hc2
 have HA2 := hid ha2
 have HM2 := hid hm2
 have HO2 := hid ho2
 have HCZ := hid hc2.lt
 clear hk02 hr2 hc2 ha2 hm2 ho2 hk2
 go_wp2_with fail
 have HNR := hid (ownBlock_ne HO2.out HM2.out (by decide))
 have hsz2 := hid (show B ≤ w2.heap.size from Nat.le_trans HM.out.base HK.out.size)
 go_region_law (refine step_append_own ?a1 (.tmp 25) (.tmp 27) 40 ?a2 B 112 i0 ?z 5 40 ?a3 ?a4 ?a5 ?a6 ?a7 ?a8 ?a9 lv L.length (accs L) ?a10 ?hown ⟨w2.heap.size, 0, none⟩ 1 1 (Acc.cells ⟨kind, i, A', B', ok'⟩) ?a11 ?a12 ?hnews ?hone ?h63 ?hby ?hbase ?_; (case a1 => rfl); (case a2 => rfl); (case a3 => exact Tryz.underlying40); (case a4 => exact HI.out.out.out); (case a5 => exact hz0); (case a6 => exact hz1); (case a7 => exact hz2); (case a8 => rfl); (case a9 => decide); (case a10 => rfl); (case a11 => rfl); (case a12 => rfl); (case hown => exact ownsRow_keep (S := fun _ => False) HO2.out (by repeat (first | exact Keep.refl _ _ | apply Keep.drew | apply Keep.alloc)) (fun _ _ h => h)); (case h63 => unfold maxLen; omega); (case hby => omega); (case hnews => exact news_at (by repeat (first | exact Blk.made (w := w2) (t := 112) (c := #[i64 kind, i64 i, i64 A', i64 B', .bool ok']) rfl rfl | apply Blk.drew))); (case hone => simp [Acc.cells, Value.oneCell']); (case hbase => have := hsz2.out; simp; omega); intro A c' w3 hown3 hg3 hsl3; have HSL := hid hsl3.1; clear hsl3; have hm3 := grown_blk hg3 (by repeat (first | exact HM2.out | apply Blk.drew | apply Blk.alloc)) HNR.out; have cm3 : w3.cell? ⟨m, 1, none⟩ = some lv := hm3.cell 1; have fm3 := hm3.frozen 1; have gm3 := lts hm3.lt; have gm30 := hm3.lt; have HM3 := hid hm3; have HG3 := hid hg3; have HW3 := hid hown3; clear hm3 hg3 hown3)
 all_goals
  have hlo : ∀ b, w.heap.size ≤ b → some b ≠ lv.ownBlock := fun b hb e => by have := (HM.out.log.lt b e.symm).2; omega
  have hc3 := grown_blk HG3.out (by repeat (first | exact HC2.out | apply Blk.drew | apply Blk.alloc)) (hlo _ (by omega))
  have hr3 := grown_blk HG3.out (by repeat (first | exact HR2.out | apply Blk.drew | apply Blk.alloc)) (hlo _ (by omega))
  have ha3 := grown_blk HG3.out (by repeat (first | exact HA2.out | apply Blk.drew | apply Blk.alloc)) (ownBlock_ne HM.out.log HM.out.words (by decide))
  have dc0 : w3.cell? ⟨w.heap.size + 1, 0, none⟩ = some (i64 kind) := hc3.cell 0
  have dc1 : w3.cell? ⟨w.heap.size + 1, 1, none⟩ = some (i64 i) := hc3.cell 1
  have dc2 : w3.cell? ⟨w.heap.size + 1, 2, none⟩ = some (i64 A') := hc3.cell 2
  have dc3 : w3.cell? ⟨w.heap.size + 1, 3, none⟩ = some (i64 B') := hc3.cell 3
  have dc4 : w3.cell? ⟨w.heap.size + 1, 4, none⟩ = some (.bool ok') := hc3.cell 4
  have er0 : w3.cell? ⟨w.heap.size, 0, none⟩ = some (i64 0) := hr3.cell 0
  have er1 : w3.cell? ⟨w.heap.size, 1, none⟩ = some (i64 0) := hr3.cell 1
  have er2 : w3.cell? ⟨w.heap.size, 2, none⟩ = some (i64 0) := hr3.cell 2
  have er3 : w3.cell? ⟨w.heap.size, 3, none⟩ = some (i64 0) := hr3.cell 3
  have er4 : w3.cell? ⟨w.heap.size, 4, none⟩ = some (.bool false) := hr3.cell 4
  have fr3 := hr3.frozen
  have hwm := HM.out.mem.lt
  go_wp2_with fail
  have hnm : m ≠ w.heap.size := by omega
  have hk4 := fun (w4 : World) (h : w4 = ((((((w3.setCell ⟨m, 1, none⟩ (.slice A (L.length + 1) c')).setCell ⟨w.heap.size, 0, none⟩ (i64 kind)).setCell ⟨w.heap.size, 1, none⟩ (i64 i)).setCell ⟨w.heap.size, 2, none⟩ (i64 A')).setCell ⟨w.heap.size, 3, none⟩ (i64 B')).setCell ⟨w.heap.size, 4, none⟩ (.bool ok'))) =>
   access_close (w4 := w4) HM.out hW' HK.out HA2.out HG3.out HW3.out (fun k hk => (HSL.out k hk).imp id (fun h => by simp at h; omega)) (h ▸ ((((((Keep.refl _ w3).set ⟨m, 1, none⟩ _ (fun _ => Or.inl rfl)).set ⟨w.heap.size, 0, none⟩ _ (fun _ => Or.inr rfl)).set ⟨w.heap.size, 1, none⟩ _ (fun _ => Or.inr rfl)).set ⟨w.heap.size, 2, none⟩ _ (fun _ => Or.inr rfl)).set ⟨w.heap.size, 3, none⟩ _ (fun _ => Or.inr rfl)).set ⟨w.heap.size, 4, none⟩ _ (fun _ => Or.inr rfl)) (by omega) (h ▸ (((((((HM3.out.set 1 (.slice A (L.length + 1) c')).other _ (Ne.symm hnm)).other _ (Ne.symm hnm)).other _ (Ne.symm hnm)).other _ (Ne.symm hnm)).other _ (Ne.symm hnm))))
  exact bodyPost_ret (v := .agg #[i64 kind, i64 i, i64 A', i64 B', .bool ok']) (by simp [results, Tryz.results141, go_sem, er0, er1, er2, er3, er4]) rfl ⟨rfl, _, hk4 _ rfl⟩
end Go.Proofs.YthaceckccobgeaaGreat

namespace Go.Proofs.YthaceckccobgeaaGreat
open Go.RowKit
theorem wpl_append_own {P : Program} {ops : Array Oper} {rest : List Oper} {o : Oper} {a : Act} {w : World} {Q : Exit → Act → World → Prop}
 (hgd : o.guard = none) (s x : Operand) (t : TypeId)
 (ho : o.op = .call { callee := .builtin .append, args := #[s, x], argTypes := #[t, t] })
 (base : Nat) (e : TypeId) (i : TypeInfo) (z : Value) (size bytes : Nat) (ht : P.underlying t = some (.slice e)) (hi : P.info? e = some i) (hz : i.zero = some z)
 (hsize : i.size = size) (hby : i.bytes = bytes) (hzs : z.cells.size = size) (hsz : 0 < size)
 (v : Value) (n : Nat) (xs : List Value) (hs : a.eval s = v) (hown : w.ownsRow base e size v n xs)
 (ad : Addr) (m c : Nat) (news : List Value) (hx : a.eval x = .slice (some ad) m c) (hl : news.length = m * size) (hnews : ∀ j u, news[j]? = some u → w.cell? (ad.add j) = some u) (h1 : ∀ u ∈ news, u.oneCell' = true)
 (h63 : n + m ≤ maxLen) (hbytes : (n + m) * bytes ≤ 140737488355328) (hbase : base ≤ w.heap.size)
 (h : ∀ A c' w', w'.ownsRow base e size (.slice A (n + m) c') (n + m) (xs ++ news) → w.grownBy w' v.ownBlock → ((∀ k, (Value.slice A (n + m) c').ownBlock = some k → v.ownBlock = some k ∨ w.heap.size ≤ k) ∧ (A = none → v = .slice none 0 0 ∧ m = 0)) → wpList P ops Q rest (a.put o.dst (.slice A (n + m) c')) w') :
 wpList P ops Q (o :: rest) a w :=
 wpList_step fun _ hK => step_append_own hgd s x t ho base e i z size bytes ht hi hz hsize hby hzs hsz v n xs hs hown ad m c news hx hl hnews h1 h63 hbytes hbase fun A c' w' h1 h2 h3 => hK _ _ (h A c' w' h1 h2 h3)
def Ints (w : World) (g : Nat) (W : List Int) : Prop := ∃ cur, w.heap[g]? = some (.cells cur 3 (0, 0)) ∧ W.length ≤ cur.size ∧ cur.toList.take W.length = ints W
theorem Ints.cell {w : World} {g : Nat} {W : List Int} (h : Ints w g W) (i : Nat) (hi : i < W.length) : w.cell? ⟨g, i, none⟩ = some (i64 (rd W i)) := by
 obtain ⟨cur, hg, hl, ht⟩ := h
 have e : w.cell? ⟨g, i, none⟩ = cur[i]? := by simp [World.cell?, hg]
 rw [e, ← ints_get W i hi, ← ht, List.getElem?_take, if_pos hi]
 simp
theorem Ints.lt {w : World} {g : Nat} {W : List Int} (h : Ints w g W) : g < w.heap.size := by
 obtain ⟨cur, hg, _⟩ := h
 exact (Array.getElem?_eq_some_iff.1 hg).1
theorem Keep.ints {S : Nat → Prop} {w w' : World} (h : Keep S w w') {g : Nat} {W : List Int} (hi : Ints w g W) (hn : ¬ S g) : Ints w' g W := by
 have hl := hi.lt
 obtain ⟨cur, hg, r⟩ := hi
 exact ⟨cur, (h.block g hl hn).trans hg, r⟩
theorem Ints.drew {w : World} {g : Nat} {W : List Int} (hi : Ints w g W) : Ints w.drew g W := hi
theorem Ints.drewN {w : World} {g : Nat} {W : List Int} (hi : Ints w g W) (n : Nat) : Ints (w.drewN n) g W := hi
theorem own_empty {w : World} {B g : Nat} {e : TypeId} {size : Nat} (h : Blk w g e []) (hb : B ≤ g) : w.ownsRow B e size (.slice (some ⟨g, 0, none⟩) 0 0) 0 [] :=
 ⟨by simp, .inr ⟨g, 0, #[], rfl, hb, h, Nat.le_refl _, by unfold maxLen; omega, by simp, by simp⟩⟩
theorem addr_addo (b o j : Nat) : (⟨b, o, none⟩ : Addr).add j = ⟨b, o + j, none⟩ := by unfold Addr.add; split <;> simp_all
theorem ints_one (W : List Int) : ∀ u ∈ ints W, u.oneCell' = true := by
 intro u hu
 simp only [ints, List.mem_map] at hu
 obtain ⟨x, _, rfl⟩ := hu
 rfl
theorem ints_of_row {w : World} {B : Nat} {A : Option Addr} {n c : Nat} {W : List Int} (h : w.ownsRow B 3 1 (.slice A n c) W.length (ints W)) (hA : A ≠ none) : ∃ g, A = some ⟨g, 0, none⟩ ∧ Ints w g W ∧ B ≤ g := by
 rcases h.2 with ⟨e, _⟩ | ⟨g, cap, cur, e, hb, hg, hn, _, hs, ht⟩
 · cases e; exact absurd rfl hA
 · cases e
   exact ⟨g, rfl, ⟨cur, hg, by omega, by simpa using ht⟩, hb⟩
end Go.Proofs.YthaceckccobgeaaGreat

namespace Go.Proofs.YthaceckccobgeaaGreat
open Go.RowKit
set_option linter.unusedVariables false
set_option linter.unusedSimpArgs false
theorem MemAt.keep {B : Nat} {S : Nat → Prop} {w w' : World} {m a : Nat} {lv : Value} {W : List Int} {L : List Acc} (h : MemAt B w m a lv W L) (hk : Keep S w w') (hS : ∀ k, MF m a lv k → ¬ S k) : MemAt B w' m a lv W L :=
 ⟨Nat.le_trans h.base hk.size, h.bm, h.ba, hk.blk h.mem (hS _ (Or.inl rfl)), hk.blk h.words (hS _ (Or.inr (Or.inl rfl))), ownsRow_keep h.log hk (fun k hkk => hS _ (Or.inr (Or.inr hkk)))⟩
theorem MemAt.same {B : Nat} {w w' : World} {m a : Nat} {lv : Value} {W : List Int} {L : List Acc} (h : MemAt B w m a lv W L) (hk : Keep (fun _ => False) w w') : MemAt B w' m a lv W L := h.keep hk (fun _ _ h => h)
def MemPost (B : Nat) (w : World) (m a : Nat) (lv : Value) (W' : List Int) (L' : List Acc) (w' : World) : Prop :=
 ∃ lv', MemAt B w' m a lv' W' L' ∧ Keep (MF m a lv) w w' ∧ (∀ k, lv'.ownBlock = some k → lv.ownBlock = some k ∨ w.heap.size ≤ k)
theorem MemPost.before {B : Nat} {w w1 w' : World} {m a : Nat} {lv : Value} {W' : List Int} {L' : List Acc} (h : MemPost B w1 m a lv W' L' w') (hk : Keep (fun _ => False) w w1) : MemPost B w m a lv W' L' w' := by
 obtain ⟨lv', h1, h2, h3⟩ := h
 exact ⟨lv', h1, (hk.mono (fun _ h => h.elim)).trans h2 (fun _ _ h => h), fun _ hkk => (h3 _ hkk).imp id (fun h => Nat.le_trans hk.size h)⟩
theorem ints_set (W : List Int) (i : Nat) (x : Int) : (ints W).set i (i64 x) = ints (W.set i x) := by simp [ints, List.map_set]
def ClosurePost (w : World) (a c : Nat) (k1 k2 A' B' : Int) (ok' : Bool) (W' : List Int) (e : Ending) (w2 : World) : Prop :=
 e = .returned (.tuple #[]) ∧ Blk w2 c 112 [i64 k1, i64 k2, i64 A', i64 B', .bool ok'] ∧ Blk w2 a 3 (ints W') ∧ Keep (fun k => k = a ∨ k = c) w w2
set_option maxHeartbeats 400000 in
theorem load1 (w : World) (a i c : Nat) (k1 k2 : Int) (W : List Int) (hi : i < W.length) (ha : Blk w a 3 (ints W)) (hc : Blk w c 112 [i64 k1, i64 k2, i64 0, i64 0, .bool false]) :
 Calls Tryz.prog 142 #[.pointer (some ⟨a, i, none⟩), ptr c] w (ClosurePost w a c k1 k2 (rd W i) 0 false W) := by
 have hac : a ≠ c := ha.ne hc (by decide)
 have hcs := hc.k5
 have hx := ha.cell i
 rw [ints_get W i hi] at hx
 have HC := hid hc
 have HA := hid ha
 have fin : ∀ w2, w2 = w.setCell ⟨c, 2, none⟩ (i64 (rd W i)) → ClosurePost w a c k1 k2 (rd W i) 0 false W (.returned (.tuple #[])) w2 := by
  rintro w2 rfl
  exact ⟨rfl, hc.set 2 _, ha.other _ (Ne.symm hac), (Keep.refl _ w).set _ _ (fun _ => Or.inr rfl)⟩
 have FIN := hid fin
 clear hc ha fin
 go_enter Tryz.func142, Tryz.ntmps142
 go_wp2
 go_end0
 exact FIN.out _ rfl
def casW (W : List Int) (i : Nat) (old x : Int) : List Int := if rd W i = old then W.set i x else W
theorem callF_Load (args : Array Value) (w : World) : (callFunc 142 args).run Tryz.prog w = .ok (.enter 142 args) w := by go_simp
@[go_sem] theorem field_acc_2 (x0 x1 x2 x3 x4 : Value) (w : World) : (Instr.field 112 (.agg #[x0, x1, x2, x3, x4]) 2).run Tryz.prog w = .ok x2 w := by kernel_rfl
section
variable {B : Nat} {w : World} {m a : Nat} {lv : Value} {W : List Int} {L : List Acc}
set_option maxHeartbeats 400000 in
theorem mem_Load (i : Int) (hm : MemAt B w m a lv W L) (h0 : 0 ≤ i) (hi : i < W.length) (hL : L.length ≤ 1000000000) :
 Calls Tryz.prog 140 #[ptr m, i64 i] w fun e w' => e = .returned (i64 (rd W i.toNat)) ∧ MemPost B w m a lv W (L ++ [⟨1, i, rd W i.toNat, 0, false⟩]) w' := by
 obtain ⟨i, rfl⟩ := Int.eq_ofNat_of_zero_le h0
 rw [Int.toNat_natCast]
 have hi' : i < W.length := by omega
 have H := mem_access B w m a lv W W L i 1 (rd W i) 0 false 142 #[] hm hi' hL rfl callF_Load (fun w1 c hk hc hb => load1 w1 a i c 1 i W hi' (hk.blk hm.words (fun h => h)) hb)
 have HH := hid H
 clear H
 go_enter Tryz.func140, Tryz.ntmps140
 go_wp2_with fail
 refine HH.out.mono ?_
 rintro e w' ⟨rfl, hp⟩
 have HP := hid hp
 clear hp
 go_wp2_with fail
 go_ret
 exact ⟨rfl, HP.out⟩
theorem casW_length (W : List Int) (i : Nat) (old x : Int) : (casW W i old x).length = W.length := by unfold casW; split <;> simp
set_option maxHeartbeats 400000 in
theorem mem_Poke (i x : Int) (hm : MemAt B w m a lv W L) (h0 : 0 ≤ i) (hi : i < W.length) :
 Calls Tryz.prog 74 #[ptr m, i64 i, i64 x] w fun e w' => e = .returned (.tuple #[]) ∧ MemAt B w' m a lv (W.set i.toNat x) L ∧ Keep (fun k => k = a) w w' := by
 obtain ⟨i, rfl⟩ := Int.eq_ofNat_of_zero_le h0
 rw [Int.toNat_natCast]
 have hi' : i < W.length := by omega
 have hms := hm.mem.k2
 have hx := hm.words.cell i
 rw [ints_get W i hi'] at hx
 have hf := hm.words.frozen i
 have hma := hm.mem.ne hm.words (by decide)
 have HM := hid hm
 clear hm
 go_enter Tryz.func74, Tryz.ntmps74
 go_wp2
 go_end0
 have hm := HM.out
 exact ⟨rfl, ⟨by simpa [World.setCell] using hm.base, hm.bm, hm.ba, by simpa using hm.mem.other _ (Ne.symm hma), (hm.words.set i _).cast (ints_set _ _ _), ownsRow_other hm.log _ (fun e => ownBlock_ne hm.log hm.words (by decide) e.symm)⟩, (Keep.refl _ w).set _ _ (fun _ => rfl)⟩
end
end Go.Proofs.YthaceckccobgeaaGreat
