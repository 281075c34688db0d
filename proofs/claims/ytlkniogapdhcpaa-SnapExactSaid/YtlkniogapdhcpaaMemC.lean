/- Words that threads share: Load, Add, Cas, Store, Poke, Len, Words, Log. -/
import Derived.Test.YtlkniogapdhcpaaMemB
namespace Go.Proofs.Ytlkniogapdhcpaa
open Go.RowKit
set_option linter.unusedVariables false
set_option linter.unusedSimpArgs false

theorem MemAt.keep {B : Nat} {S : Nat → Prop} {w w' : World} {m a : Nat} {lv : Value} {W : List Int} {L : List Acc} (h : MemAt B w m a lv W L) (hk : Keep S w w') (hS : ∀ k, MF m a lv k → ¬ S k) : MemAt B w' m a lv W L :=
  ⟨Nat.le_trans h.base hk.size, h.bm, h.ba, hk.blk h.mem (hS _ (Or.inl rfl)), hk.blk h.words (hS _ (Or.inr (Or.inl rfl))), ownsRow_keep h.log hk (fun k hkk => hS _ (Or.inr (Or.inr hkk)))⟩
theorem MemAt.same {B : Nat} {w w' : World} {m a : Nat} {lv : Value} {W : List Int} {L : List Acc} (h : MemAt B w m a lv W L) (hk : Keep (fun _ => False) w w') : MemAt B w' m a lv W L := h.keep hk (fun _ _ h => h)
/-- what an access leaves: the Mem with other words, one access more -/
def MemPost (B : Nat) (w : World) (m a : Nat) (lv : Value) (W' : List Int) (L' : List Acc) (w' : World) : Prop :=
  ∃ lv', MemAt B w' m a lv' W' L' ∧ Keep (MF m a lv) w w' ∧ (∀ k, lv'.ownBlock = some k → lv.ownBlock = some k ∨ w.heap.size ≤ k)
theorem MemPost.before {B : Nat} {w w1 w' : World} {m a : Nat} {lv : Value} {W' : List Int} {L' : List Acc} (h : MemPost B w1 m a lv W' L' w') (hk : Keep (fun _ => False) w w1) : MemPost B w m a lv W' L' w' := by
  obtain ⟨lv', h1, h2, h3⟩ := h
  exact ⟨lv', h1, (hk.mono (fun _ h => h.elim)).trans h2 (fun _ _ h => h), fun _ hkk => (h3 _ hkk).imp id (fun h => Nat.le_trans hk.size h)⟩

theorem ints_set (W : List Int) (i : Nat) (x : Int) : (ints W).set i (i64 x) = ints (W.set i x) := by simp [ints, List.map_set]
def ClosurePost (w : World) (a c : Nat) (k1 k2 A' B' : Int) (ok' : Bool) (W' : List Int) (e : Ending) (w2 : World) : Prop :=
  e = .returned (.tuple #[]) ∧ Blk w2 c 42 [i64 k1, i64 k2, i64 A', i64 B', .bool ok'] ∧ Blk w2 a 3 (ints W') ∧ Keep (fun k => k = a ∨ k = c) w w2

set_option maxHeartbeats 400000 in
theorem load1 (w : World) (a i c : Nat) (k1 k2 : Int) (W : List Int) (hi : i < W.length) (ha : Blk w a 3 (ints W)) (hc : Blk w c 42 [i64 k1, i64 k2, i64 0, i64 0, .bool false]) :
    Calls Try.prog 48 #[.pointer (some ⟨a, i, none⟩), ptr c] w (ClosurePost w a c k1 k2 (rd W i) 0 false W) := by
  have hac : a ≠ c := ha.ne hc (by decide)
  have hcs := hc.k5
  have hx := ha.cell i
  rw [ints_get W i hi] at hx
  have HC := hid hc
  have HA := hid ha
  have fin : ∀ w2, w2 = w.setCell ⟨c, 2, none⟩ (i64 (rd W i)) → ClosurePost w a c k1 k2 (rd W i) 0 false W (.returned (.tuple #[])) w2 := by
    rintro w2 rfl
    exact ⟨rfl, hc.set 2 _, ha.other _ (Ne.symm hac), (Keep.refl _ w).set _ _ (fun _ => Or.inr rfl)⟩
  have FIN := hid fin
  clear hc ha fin
  go_enter Try.func48, Try.ntmps48
  go_wp2
  go_end0
  exact FIN.out _ rfl

set_option maxHeartbeats 400000 in
theorem add1 (w : World) (a i c b : Nat) (d k1 k2 : Int) (W : List Int) (hi : i < W.length) (ha : Blk w a 3 (ints W)) (hc : Blk w c 42 [i64 k1, i64 k2, i64 0, i64 0, .bool false]) (hb : Blk w b 3 [i64 d]) (hab : a ≠ b) :
    Calls Try.prog 69 #[.pointer (some ⟨a, i, none⟩), ptr c, ptr b] w (ClosurePost w a c k1 k2 d (wrap64 (rd W i + d)) false (W.set i (wrap64 (rd W i + d)))) := by
  have hac : a ≠ c := ha.ne hc (by decide)
  have hbc : b ≠ c := hb.ne hc (by decide)
  have hcs := hc.k5
  have hbs := hb.k1
  have hx := ha.cell i
  rw [ints_get W i hi] at hx
  have hf := ha.frozen i
  have fin : ∀ w2, w2 = (((w.setCell ⟨a, i, none⟩ (i64 (wrap64 (rd W i + d)))).setCell ⟨c, 2, none⟩ (i64 d)).setCell ⟨c, 3, none⟩ (i64 (wrap64 (rd W i + d)))).drew.drew → ClosurePost w a c k1 k2 d (wrap64 (rd W i + d)) false (W.set i (wrap64 (rd W i + d))) (.returned (.tuple #[])) w2 := by
    rintro w2 rfl
    exact ⟨rfl, ((((hc.other _ hac).set 2 _).set 3 _).drew).drew, (((((ha.set i _).cast (ints_set _ _ _)).other _ (Ne.symm hac)).other _ (Ne.symm hac)).drew).drew,
      (((((Keep.refl _ w).set _ _ (fun _ => Or.inl rfl)).set _ _ (fun _ => Or.inr rfl)).set _ _ (fun _ => Or.inr rfl)).drew).drew⟩
  have FIN := hid fin
  clear hc ha hb fin
  go_enter Try.func69, Try.ntmps69
  go_wp2
  go_region
  go_wp2
  go_region
  go_end0
  exact FIN.out _ rfl

def casW (W : List Int) (i : Nat) (old x : Int) : List Int := if rd W i = old then W.set i x else W
set_option maxHeartbeats 400000 in
theorem cas1 (w : World) (a i c b b2 : Nat) (old x k1 k2 : Int) (W : List Int) (hi : i < W.length) (ha : Blk w a 3 (ints W)) (hc : Blk w c 42 [i64 k1, i64 k2, i64 0, i64 0, .bool false]) (hb : Blk w b 3 [i64 old]) (hab : a ≠ b) (hb2 : Blk w b2 3 [i64 x]) (hab2 : a ≠ b2) :
    Calls Try.prog 65 #[.pointer (some ⟨a, i, none⟩), ptr c, ptr b, ptr b2] w (ClosurePost w a c k1 k2 old x (rd W i == old) (casW W i old x)) := by
  have hac : a ≠ c := ha.ne hc (by decide)
  have hbc : b ≠ c := hb.ne hc (by decide)
  have hbc2 : b2 ≠ c := hb2.ne hc (by decide)
  have hcs := hc.k5
  have hbs := hb.k1
  have hbs2 := hb2.k1
  have hx := ha.cell i
  rw [ints_get W i hi] at hx
  have hf := ha.frozen i
  cases hE : (rd W i == old)
  · have fin : ∀ w2, w2 = (((w.setCell ⟨c, 2, none⟩ (i64 old)).setCell ⟨c, 3, none⟩ (i64 x)).setCell ⟨c, 4, none⟩ (.bool false)).drew → ClosurePost w a c k1 k2 old x false (casW W i old x) (.returned (.tuple #[])) w2 := by
      rintro w2 rfl
      have hne : ¬ rd W i = old := by simpa using hE
      unfold casW
      rw [if_neg hne]
      exact ⟨rfl, (((hc.set 2 _).set 3 _).set 4 _).drew, (((ha.other _ (Ne.symm hac)).other _ (Ne.symm hac)).other _ (Ne.symm hac)).drew,
        ((((Keep.refl _ w).set _ _ (fun _ => Or.inr rfl)).set _ _ (fun _ => Or.inr rfl)).set _ _ (fun _ => Or.inr rfl)).drew⟩
    have FIN := hid fin
    clear hc ha hb hb2 fin
    go_enter Try.func65, Try.ntmps65
    go_wp2
    go_region
    go_wp2
    go_end0
    exact FIN.out _ rfl
  · have fin : ∀ w2, w2 = ((((w.setCell ⟨c, 2, none⟩ (i64 old)).setCell ⟨c, 3, none⟩ (i64 x)).setCell ⟨c, 4, none⟩ (.bool true)).setCell ⟨a, i, none⟩ (i64 x)).drew → ClosurePost w a c k1 k2 old x true (casW W i old x) (.returned (.tuple #[])) w2 := by
      rintro w2 rfl
      have hne : rd W i = old := by simpa using hE
      unfold casW
      rw [if_pos hne]
      exact ⟨rfl, ((((hc.set 2 _).set 3 _).set 4 _).other _ hac).drew, (((((ha.other _ (Ne.symm hac)).other _ (Ne.symm hac)).other _ (Ne.symm hac)).set i _).cast (ints_set _ _ _)).drew,
        (((((Keep.refl _ w).set _ _ (fun _ => Or.inr rfl)).set _ _ (fun _ => Or.inr rfl)).set _ _ (fun _ => Or.inr rfl)).set _ _ (fun _ => Or.inl rfl)).drew⟩
    have FIN := hid fin
    clear hc ha hb hb2 fin
    go_enter Try.func65, Try.ntmps65
    go_wp2
    go_region
    go_wp2
    go_end0
    exact FIN.out _ rfl

theorem callF_Load (args : Array Value) (w : World) : (callFunc 48 args).run Try.prog w = .ok (.enter 48 args) w := by go_simp
theorem callF_Add (args : Array Value) (w : World) : (callFunc 69 args).run Try.prog w = .ok (.enter 69 args) w := by go_simp
theorem callF_Cas (args : Array Value) (w : World) : (callFunc 65 args).run Try.prog w = .ok (.enter 65 args) w := by go_simp
@[go_sem] theorem field_acc_0 (x0 x1 x2 x3 x4 : Value) (w : World) : (Instr.field 42 (.agg #[x0, x1, x2, x3, x4]) 0).run Try.prog w = .ok x0 w := by kernel_rfl
@[go_sem] theorem field_acc_1 (x0 x1 x2 x3 x4 : Value) (w : World) : (Instr.field 42 (.agg #[x0, x1, x2, x3, x4]) 1).run Try.prog w = .ok x1 w := by kernel_rfl
@[go_sem] theorem field_acc_2 (x0 x1 x2 x3 x4 : Value) (w : World) : (Instr.field 42 (.agg #[x0, x1, x2, x3, x4]) 2).run Try.prog w = .ok x2 w := by kernel_rfl
@[go_sem] theorem field_acc_3 (x0 x1 x2 x3 x4 : Value) (w : World) : (Instr.field 42 (.agg #[x0, x1, x2, x3, x4]) 3).run Try.prog w = .ok x3 w := by kernel_rfl
@[go_sem] theorem field_acc_4 (x0 x1 x2 x3 x4 : Value) (w : World) : (Instr.field 42 (.agg #[x0, x1, x2, x3, x4]) 4).run Try.prog w = .ok x4 w := by kernel_rfl
section
variable {B : Nat} {w : World} {m a : Nat} {lv : Value} {W : List Int} {L : List Acc}
set_option maxHeartbeats 400000 in
theorem mem_Load (i : Int) (hm : MemAt B w m a lv W L) (h0 : 0 ≤ i) (hi : i < W.length) (hL : L.length ≤ 1000000000) :
    Calls Try.prog 36 #[ptr m, i64 i] w fun e w' => e = .returned (i64 (rd W i.toNat)) ∧ MemPost B w m a lv W (L ++ [⟨1, i, rd W i.toNat, 0, false⟩]) w' := by
  obtain ⟨i, rfl⟩ := Int.eq_ofNat_of_zero_le h0
  rw [Int.toNat_natCast]
  have hi' : i < W.length := by omega
  have H := mem_access B w m a lv W W L i 1 (rd W i) 0 false 48 #[] hm hi' hL rfl callF_Load (fun w1 c hk hc hb => load1 w1 a i c 1 i W hi' (hk.blk hm.words (fun h => h)) hb)
  have HH := hid H
  clear H
  go_enter Try.func36, Try.ntmps36
  go_wp2_with fail
  refine HH.out.mono ?_
  rintro e w' ⟨rfl, hp⟩
  have HP := hid hp
  clear hp
  go_wp2_with fail
  go_ret
  exact ⟨rfl, HP.out⟩

set_option maxHeartbeats 400000 in
theorem mem_Add (i d : Int) (hm : MemAt B w m a lv W L) (h0 : 0 ≤ i) (hi : i < W.length) (hL : L.length ≤ 1000000000) :
    Calls Try.prog 63 #[ptr m, i64 i, i64 d] w fun e w' => e = .returned (i64 (wrap64 (rd W i.toNat + d))) ∧ MemPost B w m a lv (W.set i.toNat (wrap64 (rd W i.toNat + d))) (L ++ [⟨2, i, d, wrap64 (rd W i.toNat + d), false⟩]) w' := by
  obtain ⟨i, rfl⟩ := Int.eq_ofNat_of_zero_le h0
  rw [Int.toNat_natCast]
  have hi' : i < W.length := by omega
  have hk0 : Keep (fun _ => False) w (w.alloc (.cells #[i64 d] 3)) := (Keep.refl _ w).alloc _
  have hal := hm.words.lt
  have H := mem_access B (w.alloc (.cells #[i64 d] 3)) m a lv W (W.set i (wrap64 (rd W i + d))) L i 2 d (wrap64 (rd W i + d)) false 69 #[ptr w.heap.size] (hm.same hk0) hi' hL (by simp) callF_Add
    (fun w1 c hk hc hb => add1 w1 a i c w.heap.size d 2 i W hi' (hk.blk (hm.words.alloc _) (fun h => h)) hb (hk.blk (Blk.made rfl rfl) (fun h => h)) (by omega))
  have HH := hid H
  have HK0 := hid hk0
  clear H hk0
  go_enter Try.func63, Try.ntmps63
  go_wp2_with fail
  refine HH.out.mono ?_
  rintro e w' ⟨rfl, hp⟩
  have HP := hid hp
  clear hp
  go_wp2_with fail
  go_ret
  exact ⟨rfl, MemPost.before HP.out HK0.out⟩

theorem casW_length (W : List Int) (i : Nat) (old x : Int) : (casW W i old x).length = W.length := by unfold casW; split <;> simp
set_option maxHeartbeats 400000 in
theorem mem_Cas (i old x : Int) (hm : MemAt B w m a lv W L) (h0 : 0 ≤ i) (hi : i < W.length) (hL : L.length ≤ 1000000000) :
    Calls Try.prog 60 #[ptr m, i64 i, i64 old, i64 x] w fun e w' => e = .returned (.bool (rd W i.toNat == old)) ∧ MemPost B w m a lv (casW W i.toNat old x) (L ++ [⟨3, i, old, x, rd W i.toNat == old⟩]) w' := by
  obtain ⟨i, rfl⟩ := Int.eq_ofNat_of_zero_le h0
  rw [Int.toNat_natCast]
  have hi' : i < W.length := by omega
  have hk0 : Keep (fun _ => False) w ((w.alloc (.cells #[i64 old] 3)).alloc (.cells #[i64 x] 3)) := ((Keep.refl _ w).alloc _).alloc _
  have hal := hm.words.lt
  have H := mem_access B ((w.alloc (.cells #[i64 old] 3)).alloc (.cells #[i64 x] 3)) m a lv W (casW W i old x) L i 3 old x (rd W i == old) 65 #[ptr w.heap.size, ptr (w.heap.size + 1)] (hm.same hk0) hi' hL (casW_length _ _ _ _) callF_Cas
    (fun w1 c hk hc hb => cas1 w1 a i c w.heap.size (w.heap.size + 1) old x 3 i W hi' (hk.blk ((hm.words.alloc _).alloc _) (fun h => h)) hb (hk.blk ((Blk.made rfl rfl).alloc _) (fun h => h)) (by omega) (hk.blk (Blk.made (by simp) rfl) (fun h => h)) (by omega))
  have HH := hid H
  have HK0 := hid hk0
  clear H hk0
  go_enter Try.func60, Try.ntmps60
  go_wp2_with fail
  refine HH.out.mono ?_
  rintro e w' ⟨rfl, hp⟩
  have HP := hid hp
  clear hp
  go_wp2_with fail
  go_ret
  exact ⟨rfl, MemPost.before HP.out HK0.out⟩

set_option maxHeartbeats 400000 in
theorem mem_Poke (i x : Int) (hm : MemAt B w m a lv W L) (h0 : 0 ≤ i) (hi : i < W.length) :
    Calls Try.prog 30 #[ptr m, i64 i, i64 x] w fun e w' => e = .returned (.tuple #[]) ∧ MemAt B w' m a lv (W.set i.toNat x) L ∧ Keep (fun k => k = a) w w' := by
  obtain ⟨i, rfl⟩ := Int.eq_ofNat_of_zero_le h0
  rw [Int.toNat_natCast]
  have hi' : i < W.length := by omega
  have hms := hm.mem.k2
  have hx := hm.words.cell i
  rw [ints_get W i hi'] at hx
  have hf := hm.words.frozen i
  have hma := hm.mem.ne hm.words (by decide)
  have HM := hid hm
  clear hm
  go_enter Try.func30, Try.ntmps30
  go_wp2
  go_end0
  have hm := HM.out
  exact ⟨rfl, ⟨by simpa [World.setCell] using hm.base, hm.bm, hm.ba, by simpa using hm.mem.other _ (Ne.symm hma), (hm.words.set i _).cast (ints_set _ _ _), ownsRow_other hm.log _ (fun e => ownBlock_ne hm.log hm.words (by decide) e.symm)⟩, (Keep.refl _ w).set _ _ (fun _ => rfl)⟩

set_option maxHeartbeats 400000 in
theorem mem_Words (hm : MemAt B w m a lv W L) (hW : W.length ≤ 1000000000) :
    Calls Try.prog 25 #[ptr m] w fun e w' => ∃ g c', e = .returned (.slice (some ⟨g, 0, none⟩) W.length c') ∧ Ints w' g W ∧ Keep (fun _ => False) w w' ∧ w.heap.size ≤ g := by
  have hms := hm.mem.k2
  have H := fun n c hn => clone_ints w a n c W hn hW (fun i hi => (hm.words.cell i).trans (ints_get W i hi))
  have HH := hid H
  clear hm H
  go_enter Try.func25, Try.ntmps25
  go_wp2_with fail
  refine (HH.out _ _ rfl).mono ?_
  rintro e w' ⟨g, c', rfl, hp⟩
  have HP := hid hp
  clear hp
  go_wp2_with fail
  go_ret
  exact ⟨g, c', rfl, HP.out⟩
end
end Go.Proofs.Ytlkniogapdhcpaa
