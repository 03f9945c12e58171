/- The contracts of stats.Add: date's Valid and Day, bits.Len, the sums behind an article, Add. -/
/- The contract of stats.Add. -/
/- Events in memory; the model's day and has. -/
import Derived.Test.YtlemadbmlnjhpaaGreatDoorG4
import Derived.StillTailTactics
import Derived.Deep.MidRow
namespace Go.Proofs.YtlemadbmlnjhpaaGreatDoor
open Go Go.RowKit Go.Proofs
open Go.ChangeMaps (setBlock)
set_option linter.unusedSimpArgs false
set_option linter.unusedVariables false

/-- what a call that turns the statistics alone leaves as it was -/
structure Kept (B sb m : Nat) (w w' : World) : Prop where
  os : w'.os = w.os
  tape : w'.tape = w.tape
  output : w'.output = w.output
  size : w.heap.size ≤ w'.heap.size
  block : ∀ i, i < B → i ≠ sb → i ≠ m → w'.heap[i]? = w.heap[i]?
theorem Kept.refl (B sb m : Nat) (w : World) : Kept B sb m w w := ⟨rfl, rfl, rfl, Nat.le_refl _, fun _ _ _ _ => rfl⟩
theorem Kept.trans {B sb m : Nat} {a b c : World} (h : Kept B sb m a b) (k : Kept B sb m b c) : Kept B sb m a c :=
  ⟨k.os.trans h.os, k.tape.trans h.tape, k.output.trans h.output, Nat.le_trans h.size k.size, fun i h1 h2 h3 => (k.block i h1 h2 h3).trans (h.block i h1 h2 h3)⟩
theorem Kept.mono {B B' sb m : Nat} {a b : World} (h : Kept B sb m a b) (hB : B' ≤ B) : Kept B' sb m a b :=
  ⟨h.os, h.tape, h.output, h.size, fun i h1 h2 h3 => h.block i (by omega) h2 h3⟩
theorem Kept.ofBelow {B sb m : Nat} {a b : World} (h : Below B a b) : Kept B sb m a b := ⟨h.os, h.tape, h.output, h.size, fun i h1 _ _ => h.block i h1⟩
theorem Kept.below {B sb m : Nat} {a b c : World} (h : Kept B sb m a b) (k : Below b.heap.size b c) (hB : B ≤ b.heap.size) : Kept B sb m a c := h.trans (Kept.ofBelow (k.mono hB))
theorem Kept.grown {B sb m : Nat} {a b c : World} (h : Kept B sb m a b) (k : b.grownBy c (some m)) (hB : B ≤ b.heap.size) : Kept B sb m a c :=
  h.trans ⟨k.os, k.tape, k.output, k.size, fun i h1 h2 h3 => k.block i (by omega) (fun e => h3 (by cases e; rfl))⟩
theorem Kept.setCell {B sb m : Nat} {a b : World} (h : Kept B sb m a b) (o : Nat) (u : Value) : Kept B sb m a (b.setCell ⟨sb, o, none⟩ u) :=
  ⟨h.os, h.tape, h.output, by simpa using h.size, fun i h1 h2 h3 => by rw [heap_setCell_other _ _ _ _ (by simpa using h2)]; exact h.block i h1 h2 h3⟩

theorem valid_any (m : Int) (w : World) : Calls Tryz.prog 68 #[.int .i64 m] w fun e w' => e = .returned (.bool (decide (0 ≤ m) && decide (m ≤ 105190559))) ∧ w' = w := by
  by_cases h0 : 0 ≤ m
  · by_cases h1 : m ≤ 105190559
    · go_enter Tryz.func68, Tryz.ntmps68
      go_wp2_with fail
      go_ret
      exact ⟨ret_bool (by simp [h0, h1]), rfl⟩
    · have h1' : 105190559 < m := by omega
      go_enter Tryz.func68, Tryz.ntmps68
      go_wp2_with fail
      go_ret
      exact ⟨ret_bool (by simp [h0, h1]), rfl⟩
  · have h1' : m < 0 := by omega
    go_enter Tryz.func68, Tryz.ntmps68
    go_wp2_with fail
    go_ret
    exact ⟨ret_bool (by simp; omega), rfl⟩
theorem day_any (m : Int) (w : World) (h0 : 0 ≤ m) (h1 : m ≤ 105190559) : Calls Tryz.prog 48 #[.int .i64 m] w fun e w' => e = .returned (.tuple #[.int .i64 (m / 1440), .int .i64 0]) ∧ w' = w := by
  have hv := Lib.hid (valid_any m w)
  have hd : (decide (0 ≤ m) && decide (m ≤ 105190559)) = true := by simp [h0, h1]
  rw [hd] at hv
  clear hd
  go_enter Tryz.func48, Tryz.ntmps48
  go_wp2_with (go_at_call 68; refine hv.out.mono ?_; rintro e w' ⟨rfl, rfl⟩)
  exact bodyPost_ret (v := .tuple #[.int .i64 (m / 1440), .int .i64 0]) (by simp [results, Tryz.results48, go_sem]) rfl ⟨rfl, rfl⟩

/-! the sums -/
theorem findL_snd (k : Key) : ∀ (L : List (Key × Cnt)) (i j : Nat), (findL k L i).map Prod.snd = (findL k L j).map Prod.snd
  | [], _, _ => rfl
  | p :: r, i, j => by
    unfold findL
    split
    · rfl
    · exact findL_snd k r (i + 1) (j + 1)
theorem getL_cons (k : Key) (q : Key × Cnt) (r : List (Key × Cnt)) : getL k (q :: r) = if keyEq k q.1 then q.2 else getL k r := by
  unfold getL
  rw [findL]
  split
  · rfl
  · rw [findL_snd k r 1 0]
theorem sumBy_put (p : Key → Bool) (k : Key) (c : Cnt) : ∀ (L : List (Key × Cnt)),
    (sumBy p (putL k c L)).1 = (sumBy p L).1 + (if p k then c.1 - (getL k L).1 else 0) ∧ (sumBy p (putL k c L)).2 = (sumBy p L).2 + (if p k then c.2 - (getL k L).2 else 0)
  | [] => by
    unfold putL sumBy getL findL
    by_cases h : p k = true <;> simp [h, sumBy]
  | q :: r => by
    have ih := sumBy_put p k c r
    rw [putL, getL_cons]
    by_cases hk : keyEq k q.1 = true
    · have e : k = q.1 := (keyEq_iff _ _).1 hk
      rw [if_pos hk, if_pos hk]
      simp only [sumBy, ← e]
      by_cases h : p k = true
      · simp only [h, if_true]; omega
      · simp [h]
    · rw [if_neg hk, if_neg hk]
      simp only [sumBy]
      by_cases h : p q.1 = true
      · simp only [h, if_true]; omega
      · simp only [h]; exact ih
theorem sumBy_bump (p : Key → Bool) (k : Key) (b : Int) (L : List (Key × Cnt)) :
    (sumBy p (bump L k b)).1 = (sumBy p L).1 + (if p k then 1 else 0) ∧ (sumBy p (bump L k b)).2 = (sumBy p L).2 + (if p k then b else 0) := by
  have h := sumBy_put p k ((getL k L).1 + 1, (getL k L).2 + b) L
  unfold bump
  rw [h.1, h.2]
  constructor <;> split <;> simp <;> omega

/-- no count is negative, and the sums of all are at most N, and N articles' bytes -/
def BndN (L : List (Key × Cnt)) (N : Int) : Prop := (∀ q ∈ L, 0 ≤ q.2.1 ∧ 0 ≤ q.2.2) ∧ (sumBy (fun _ => true) L).1 ≤ N ∧ (sumBy (fun _ => true) L).2 ≤ N * 65536
theorem BndN.bnd {L : List (Key × Cnt)} {N : Int} (h : BndN L N) (hN : N ≤ 10000000) : Bnd L := ⟨h.1, by have := h.2.1; omega, by have := h.2.2; omega⟩
theorem BndN.mono {L : List (Key × Cnt)} {N M : Int} (h : BndN L N) (hN : N ≤ M) : BndN L M := ⟨h.1, by have := h.2.1; omega, by have := h.2.2; omega⟩
theorem getL_nonneg {k : Key} : ∀ {L : List (Key × Cnt)}, (∀ q ∈ L, 0 ≤ q.2.1 ∧ 0 ≤ q.2.2) → 0 ≤ (getL k L).1 ∧ 0 ≤ (getL k L).2
  | [], _ => by simp [getL, findL]
  | q :: r, h => by
    rw [getL_cons]
    split
    · exact h q (by simp)
    · exact getL_nonneg fun x hx => h x (by simp [hx])
theorem mem_putL {k : Key} {c : Cnt} {q : Key × Cnt} : ∀ {L : List (Key × Cnt)}, q ∈ putL k c L → q = (k, c) ∨ q ∈ L
  | [], h => by simp [putL] at h; exact Or.inl h
  | p :: r, h => by
    rw [putL] at h
    split at h
    · rcases List.mem_cons.1 h with h | h
      · exact Or.inl h
      · exact Or.inr (List.mem_cons_of_mem _ h)
    · rcases List.mem_cons.1 h with h | h
      · exact Or.inr (by simp [h])
      · rcases mem_putL h with h | h
        · exact Or.inl h
        · exact Or.inr (List.mem_cons_of_mem _ h)
theorem BndN.bump {L : List (Key × Cnt)} {N : Int} (h : BndN L N) (k : Key) (b : Int) (hb : 0 ≤ b ∧ b ≤ 65536) : BndN (bump L k b) (N + 1) := by
  have hs := sumBy_bump (fun _ => true) k b L
  have hn := getL_nonneg (k := k) h.1
  have h1 := h.2.1
  have h2 := h.2.2
  simp only [if_true] at hs
  refine ⟨fun q hq => ?_, by omega, by omega⟩
  rcases mem_putL hq with rfl | hq
  · exact ⟨by show 0 ≤ _ + 1; omega, by show 0 ≤ _ + b; omega⟩
  · exact h.1 q hq

def bumps (L : List (Key × Cnt)) (ks : List Key) (b : Int) : List (Key × Cnt) := ks.foldl (fun L k => bump L k b) L
theorem bumps_snoc (L : List (Key × Cnt)) (ks : List Key) (k : Key) (b : Int) : bumps L (ks ++ [k]) b = bump (bumps L ks b) k b := by simp [bumps]
theorem BndN.bumps {b : Int} (hb : 0 ≤ b ∧ b ≤ 65536) : ∀ {ks : List Key} {L : List (Key × Cnt)} {N : Int}, BndN L N → BndN (bumps L ks b) (N + ks.length)
  | [], L, N, h => by simpa [YtlemadbmlnjhpaaGreatDoor.bumps] using h
  | k :: r, L, N, h => by
    have := BndN.bumps hb (ks := r) (h.bump k b hb)
    have e : N + 1 + (r.length : Int) = N + ((k :: r).length : Int) := by simp; omega
    rw [e] at this; exact this
theorem sumBy_bumps (p : Key → Bool) (b : Int) : ∀ (ks : List Key) (L : List (Key × Cnt)),
    (sumBy p (bumps L ks b)).1 = (sumBy p L).1 + (ks.countP p : Nat) ∧ (sumBy p (bumps L ks b)).2 = (sumBy p L).2 + (ks.countP p : Nat) * b
  | [], L => by simp [bumps]
  | k :: r, L => by
    have ih := sumBy_bumps p b r (bump L k b)
    have hs := sumBy_bump p k b L
    rw [show bumps L (k :: r) b = bumps (bump L k b) r b from rfl, ih.1, ih.2, hs.1, hs.2, List.countP_cons]
    by_cases h : p k = true
    · simp only [h, if_true]
      constructor
      · omega
      · rw [Int.natCast_add, Int.add_mul]; simp; omega
    · simp [h]

def keysOf (mi : Int) (au : List UInt8) (gs ss : List ByteArray) : List Key :=
  ((mi / 1440, 0, ByteArray.empty) :: gs.map (fun g => (mi / 1440, 1, g))) ++ ss.map (fun s => (mi / 1440, 2, s)) ++ [(mi / 1440, 3, auText au)]
theorem keysOf_length (mi : Int) (au : List UInt8) (gs ss : List ByteArray) : (keysOf mi au gs ss).length = gs.length + ss.length + 2 := by simp [keysOf]; omega

theorem evErr_zero {m : Int} {gs ss : List ByteArray} {b : Int} (h : evErr m gs ss b = 0) : (0 ≤ m ∧ m ≤ 105190559) ∧ (gs.length ≤ 20 ∧ 0 < gs.length) ∧ ss.length ≤ 50 ∧ 0 ≤ b ∧ b ≤ 65536 := by
  unfold evErr at h
  split at h
  · cases h
  · split at h
    · omega
    · rename_i h2
      split at h
      · cases h
      · split at h
        · omega
        · split at h
          · cases h
          · refine ⟨by omega, ?_, by omega, by omega, by omega⟩
            have h3 : fmtErr gs = 0 := by simpa using h2
            unfold fmtErr glErr at h3
            split at h3
            · cases h3
            · split at h3
              · cases h3
              · exact ⟨by omega, by omega⟩

theorem bitLen_le (n : Nat) (h : n ≤ 65536) : Lib.bitLen n ≤ 17 := by
  have key : ∀ (f k n : Nat), n < 2 ^ k → Lib.bitLenAux f n ≤ k := by
    intro f
    induction f with
    | zero => intro k n _; simp [Lib.bitLenAux]
    | succ f ih =>
      intro k n hn
      unfold Lib.bitLenAux
      split
      · omega
      · cases k with
        | zero => simp at hn; omega
        | succ k =>
          have := ih k (n / 2) (by rw [Nat.pow_succ] at hn; omega)
          omega
  exact key 64 17 n (by omega)

def incZ (zs : List Int) (b : Int) : List Int := zs.set (Lib.bitLen b.toNat) (zs.getD (Lib.bitLen b.toNat) 0 + 1)
def addL (L : List (Key × Cnt)) (mi : Int) (au : List UInt8) (gs ss : List ByteArray) (b : Int) : List (Key × Cnt) := if evErr mi gs ss b = 0 then bumps L (keysOf mi au gs ss) b else L
def addZ (zs : List Int) (mi : Int) (gs ss : List ByteArray) (b : Int) : List Int := if evErr mi gs ss b = 0 then incZ zs b else zs
theorem BndN.add {L : List (Key × Cnt)} {N : Int} (h : BndN L N) (mi : Int) (au : List UInt8) (gs ss : List ByteArray) (b : Int) : BndN (addL L mi au gs ss b) (N + 100) := by
  unfold addL
  split
  · rename_i he
    obtain ⟨_, h2, h3, h4, h5⟩ := evErr_zero he
    exact (BndN.bumps ⟨h4, h5⟩ h).mono (by rw [keysOf_length]; omega)
  · exact h.mono (by omega)
def SzN (zs : List Int) (N : Int) : Prop := ∀ z ∈ zs, 0 ≤ z ∧ z ≤ N
theorem SzN.add {zs : List Int} {N : Int} (h : SzN zs N) (h0 : 0 ≤ N) (mi : Int) (gs ss : List ByteArray) (b : Int) : SzN (addZ zs mi gs ss b) (N + 100) := by
  unfold addZ
  split
  · intro z hz
    have hg : ∀ k, 0 ≤ zs.getD k 0 ∧ zs.getD k 0 ≤ N := fun k => by
      rw [List.getD_eq_getElem?_getD]
      cases hk : zs[k]? with
      | none => simp; omega
      | some y => simpa using h y (List.mem_of_getElem? hk)
    rcases List.mem_or_eq_of_mem_set hz with hz | rfl
    · have := h z hz; omega
    · have := hg (Lib.bitLen b.toNat); omega
  · intro z hz; have := h z hz; omega

/-- the middle of Add: its three boxes, the statistics, and what it leaves as it was -/
structure AddAt (w wr : World) (ib eb db sb m : Nat) (ev : List Value) (day : Int) (L : List (Key × Cnt)) (zs : List Int) : Prop where
  s : wr.cell? ⟨ib, 0, none⟩ = some (.pointer (some ⟨sb, 0, none⟩))
  d : wr.cell? ⟨db, 0, none⟩ = some (.int .i64 day)
  e : ∀ k v, ev[k]? = some v → wr.cell? ⟨eb, k, none⟩ = some v
  st : StatsAt wr sb m L zs
  kept : Kept w.heap.size sb m w wr
theorem MapIs.notCell {w : World} {m : Nat} {L : List (Key × Cnt)} (h : MapIs w m L) {x o : Nat} {v : Value} (hx : w.cell? ⟨x, o, none⟩ = some v) : x ≠ m := fun e => by
  subst e
  obtain ⟨es, clock, hh, _⟩ := h
  simp [World.cell?, hh] at hx
theorem AddAt.clos {w wr w' : World} {ib eb db sb m : Nat} {ev : List Value} {day : Int} {L L' : List (Key × Cnt)} {zs : List Int} {e : Ending} (h : AddAt w wr ib eb db sb m ev day L zs) (hc : ClosEnd wr m L' e w') : e = .returned (.tuple #[]) ∧ AddAt w w' ib eb db sb m ev day L' zs := by
  obtain ⟨he, hm, hg⟩ := hc
  have hm0 := h.st.2.2
  refine ⟨he, ⟨hg.cell h.s (by simp; exact hm0.notCell h.s), hg.cell h.d (by simp; exact hm0.notCell h.d), fun k v hk => hg.cell (h.e k v hk) (by simp; exact hm0.notCell (h.e k v hk)), ⟨?_, h.st.2.1, hm⟩, h.kept.grown hg h.kept.size⟩⟩
  exact (hg.block sb h.st.lt.1 (by simp; exact h.st.lt.2.2)).trans h.st.1
theorem AddAt.below {w wr w' : World} {ib eb db sb m : Nat} {ev : List Value} {day : Int} {L : List (Key × Cnt)} {zs : List Int} (h : AddAt w wr ib eb db sb m ev day L zs) (hb : Below wr.heap.size wr w') : AddAt w w' ib eb db sb m ev day L zs :=
  ⟨(hb.cell (p := ⟨ib, 0, none⟩) (World.block_lt_of_cell? wr _ h.s)).trans h.s, (hb.cell (p := ⟨db, 0, none⟩) (World.block_lt_of_cell? wr _ h.d)).trans h.d, fun k v hk => (hb.cell (p := ⟨eb, k, none⟩) (World.block_lt_of_cell? wr _ (h.e k v hk))).trans (h.e k v hk), h.st.below hb, h.kept.below hb h.kept.size⟩

/-- a slice of strings that lies neither in the statistics' block nor in their map's outlives a change of them -/
theorem SliceStr.kept {w w' : World} {v : Value} {zs : List ByteArray} {sb m : Nat} {L : List (Key × Cnt)} {ns : List Int} (h : SliceStr w v zs) (hs : StatsAt w sb m L ns) (hk : Kept w.heap.size sb m w w') : SliceStr w' v zs := by
  rcases h with h | ⟨bb, o, c, rfl, g1, g2, g3, g4, g5⟩
  · exact Or.inl h
  · refine Or.inr ⟨bb, o, c, rfl, g1, g2, Nat.lt_of_lt_of_le g3 hk.size, fun k hk' => ?_, g5⟩
    have hc := g4 k hk'
    have n1 : bb ≠ m := hs.2.2.notCell hc
    have n2 : bb ≠ sb := fun e => by
      subst e
      rw [cell_of_row _ _ _ _ _ _ hs.1] at hc
      rcases hq : (o + k) with _ | q
      · rw [hq] at hc; simp at hc
      · rw [hq] at hc
        simp at hc
    rw [World.cell?_of_block (hk.block bb g3 n2 n1)]; exact hc
theorem SliceStr.form {w : World} {v : Value} {zs : List ByteArray} (h : SliceStr w v zs) : ∃ A c, v = .slice A zs.length c ∧ ∀ k, k < zs.length → ∃ bb o, A = some ⟨bb, o, none⟩ ∧ w.cell? ⟨bb, o + k, none⟩ = some (.string (zs.getD k ByteArray.empty)) := by
  rcases h with ⟨A, c, rfl, rfl⟩ | ⟨bb, o, c, rfl, g1, g2, g3, g4, g5⟩
  · exact ⟨_, _, rfl, fun k hk => by simp at hk⟩
  · exact ⟨_, _, rfl, fun k hk => ⟨bb, o, rfl, g4 k hk⟩⟩
end Go.Proofs.YtlemadbmlnjhpaaGreatDoor
namespace Go.Proofs.YtlemadbmlnjhpaaGreatDoor
open Go Go.RowKit Go.Proofs
open Go.ChangeMaps (setBlock)
set_option linter.unusedSimpArgs false
set_option linter.unusedVariables false

def AddEnd (w : World) (sb m : Nat) (L : List (Key × Cnt)) (zs : List Int) (mi : Int) (au : List UInt8) (gs ss : List ByteArray) (b : Int) (e : Ending) (w' : World) : Prop :=
  e = .returned (.int .i64 (evErr mi gs ss b)) ∧ StatsAt w' sb m (addL L mi au gs ss b) (addZ zs mi gs ss b) ∧ Kept w.heap.size sb m w w'

theorem Tryz.fld0 (x y : Int) (w : World) : (Instr.field 34 (.agg #[.int .i64 x, .int .i64 y]) 0).run Tryz.prog w = .ok (.int .i64 x) w := by kernel_rfl
theorem Tryz.fld1 (x y : Int) (w : World) : (Instr.field 34 (.agg #[.int .i64 x, .int .i64 y]) 1).run Tryz.prog w = .ok (.int .i64 y) w := by kernel_rfl
theorem wrap_u64 (b : Int) (h : 0 ≤ b ∧ b ≤ 65536) : IntKind.u64.wrap b = b := by
  have := h.1; have := h.2
  simp [IntKind.wrap, IntKind.bits, IntKind.signed]
  omega
theorem sizes_set (m : Nat) (zs : List Int) (n : Nat) (z : Int) (h : n < zs.length) :
    (Value.map (some m) :: zs.map (Value.int .i64)).toArray.setIfInBounds (1 + n) (.int .i64 (z + 1)) = (Value.map (some m) :: (zs.set n (z + 1)).map (Value.int .i64)).toArray := by
  rw [Nat.add_comm]
  simp [List.map_set]
theorem take_getD {α : Type} {d : α} {l : List α} {k : Nat} (h : k < l.length) : l.take (k + 1) = l.take k ++ [l.getD k d] := by
  rw [List.take_succ_eq_append_getElem h, List.getD_eq_getElem?_getD, List.getElem?_eq_getElem h, Option.getD_some]
set_option maxRecDepth 100000 in
set_option maxHeartbeats 3200000 in
theorem add_lit (sb m : Nat) (L : List (Key × Cnt)) (zs : List Int) (N : Int) (mi : Int) (v1 v2 v3 v4 v5 v6 v7 v8 v9 v10 v11 v12 v13 v14 v15 v16 g sv : Value) (au : List UInt8) (hau : [v1, v2, v3, v4, v5, v6, v7, v8, v9, v10, v11, v12, v13, v14, v15, v16] = byteVals au) (b : Int) (gs ss : List ByteArray) (w : World)
    (hg : SliceStr w g gs) (hs : SliceStr w sv ss) (hst : StatsAt w sb m L zs) (hN : BndN L N) (hN0 : 0 ≤ N ∧ N ≤ 900000) (hz : SzN zs N) :
    Calls Tryz.prog 26 #[.pointer (some ⟨sb, 0, none⟩), .agg #[.int .i64 mi, v1, v2, v3, v4, v5, v6, v7, v8, v9, v10, v11, v12, v13, v14, v15, v16, g, sv, .int .i64 b]] w (AddEnd w sb m L zs mi au gs ss b) := by
  obtain ⟨W, hW⟩ : ∃ W, W = (w.alloc (.cells #[.pointer (some ⟨sb, 0, none⟩)] 30)).alloc (.cells #[.int .i64 mi, v1, v2, v3, v4, v5, v6, v7, v8, v9, v10, v11, v12, v13, v14, v15, v16, g, sv, .int .i64 b] 27) := ⟨_, rfl⟩
  have hbW : Below w.heap.size w W := by rw [hW]; exact ((Below.refl _ w).alloc (Nat.le_refl _) _).alloc (by simp) _
  have hWs : W.heap.size = w.heap.size + 1 + 1 := by rw [hW]; simp
  have c0 : W.heap[w.heap.size]? = some (.cells #[.pointer (some ⟨sb, 0, none⟩)] 30 (0, 0)) := by rw [hW]; exact heap_alloc2_old _ _ _
  have c1 : W.heap[w.heap.size + 1]? = some (.cells #[.int .i64 mi, v1, v2, v3, v4, v5, v6, v7, v8, v9, v10, v11, v12, v13, v14, v15, v16, g, sv, .int .i64 b] 27 (0, 0)) := by rw [hW]; exact heap_alloc2_new _ _ _
  have hck := evcheck_lit mi v1 v2 v3 v4 v5 v6 v7 v8 v9 v10 v11 v12 v13 v14 v15 v16 g sv b gs ss W (hg.below hbW) (hs.below hbW)
  obtain ⟨er, her⟩ : ∃ er, er = evErr mi gs ss b := ⟨_, rfl⟩
  rw [← her] at hck
  rw [hW] at hck
  have hstW := hst.below hbW
  have hck' := Lib.hid hck
  have hW' := Lib.hid hW
  have hbW' := Lib.hid hbW
  have hWs' := Lib.hid hWs
  have her' := Lib.hid her
  have hau' := Lib.hid hau
  have hg' := Lib.hid hg
  have hs' := Lib.hid hs
  have hst' := Lib.hid hst
  have hN' := Lib.hid hN
  have hz' := Lib.hid hz
  have c0' := Lib.hid c0
  have c1' := Lib.hid c1
  have hstW' := Lib.hid hstW
  clear hck hbW hWs her hau hg hs hst hN hz c0 c1 hstW hW
  by_cases he0 : er = 0
  · subst he0
    obtain ⟨⟨hm0, hm1⟩, ⟨hg1, hg2⟩, hs1, hb1, hb2⟩ := evErr_zero her'.out.symm
    obtain ⟨ga, gc, rfl, hgf⟩ := hg'.out.form
    obtain ⟨sa, sc, rfl, hsf⟩ := hs'.out.form
    clear hgf hsf
    have hwt : (sumBy isWhole L).1 < 1000000 := by have h1 := sumBy_bound isWhole hN'.out.1; have h2 := hN'.out.2.1; omega
    obtain ⟨tot, htot⟩ : ∃ t, t = (sumBy isWhole L).1 := ⟨_, rfl⟩
    rw [← htot] at hwt
    have htot' := Lib.hid htot
    clear htot
    go_enter Tryz.func26, Tryz.ntmps26
    go_wp2_with (refine wpList_load_row rfl 27 _ rfl (w.heap.size + 1) rfl _ _ _ _ (heap_alloc2_new _ _ _) Tryz.underlying27 rfl rfl ?_)
    go_at_call 31
    refine hck'.out.mono ?_
    rintro e w1 ⟨rfl, hb1⟩
    rw [← hW'.out] at hb1
    have s1 := hstW'.out.below hb1
    have k0 : w1.cell? ⟨w.heap.size, 0, none⟩ = some (.pointer (some ⟨sb, 0, none⟩)) := by rw [cell_of_row _ _ _ _ _ _ ((hb1.block _ (by have := hWs'.out; omega)).trans c0'.out)]; rfl
    have htt := total_any sb m L zs w1 s1 (hN'.out.bnd (by omega))
    rw [← htot'.out] at htt
    have htt' := Lib.hid htt
    have hb1' := Lib.hid hb1
    clear htt hb1 s1
    go_wp2_with (go_at_call 11; fail)
    refine htt'.out.mono ?_
    rintro e w2 ⟨rfl, hb2⟩
    have hb12 : Below W.heap.size W w2 := hb1'.out.trans (hb2.mono hb1'.out.size)
    have k1 : w2.cell? ⟨w.heap.size + 1, 0, none⟩ = some (.int .i64 mi) := by rw [cell_of_row _ _ _ _ _ _ ((hb12.block _ (by have := hWs'.out; omega)).trans c1'.out)]; rfl
    have hb12' := Lib.hid hb12
    clear hb12 hb2
    have hfl := Tryz.fld0 tot (sumBy isWhole L).2 w2
    obtain ⟨day, hday⟩ : ∃ day, day = mi / 1440 := ⟨_, rfl⟩
    have hdc := day_any mi w2 hm0 hm1
    rw [← hday] at hdc
    have hdc' := Lib.hid hdc
    have hday' := Lib.hid hday
    clear hdc hday
    obtain ⟨W3, hW3⟩ : ∃ W3, W3 = w2.alloc (.cells #[.int .i64 day] 3) := ⟨_, rfl⟩
    have A0 : AddAt w W3 w.heap.size (w.heap.size + 1) w2.heap.size sb m [.int .i64 mi, v1, v2, v3, v4, v5, v6, v7, v8, v9, v10, v11, v12, v13, v14, v15, v16, .slice ga gs.length gc, .slice sa ss.length sc, .int .i64 b] day L zs := by
      have hb3 : Below W.heap.size W W3 := by rw [hW3]; exact hb12'.out.alloc hb12'.out.size _
      refine ⟨?_, ?_, fun k v hk => ?_, hstW'.out.below hb3, Kept.ofBelow (hbW'.out.trans (hb3.mono hbW'.out.size))⟩
      · rw [cell_of_row _ _ _ _ _ _ ((hb3.block _ (by have := hWs'.out; omega)).trans c0'.out)]; rfl
      · rw [hW3, cell_of_row _ _ _ _ _ _ (heap_alloc_new w2 _)]; rfl
      · rw [cell_of_row _ _ _ _ _ _ ((hb3.block _ (by have := hWs'.out; omega)).trans c1'.out)]; simpa using hk
    have hc1 := addclos_any w2.heap.size w.heap.size (w.heap.size + 1) sb m 0 ⟨#[]⟩ day b L W3 A0.d A0.s (A0.e 19 _ rfl) A0.st.cell0 A0.st.2.2 (hN'.out.bnd (by omega)) ⟨hb1, hb2⟩
    rw [hW3] at hc1 A0
    have A0' := Lib.hid A0
    have hc1' := Lib.hid hc1
    have hW3' := Lib.hid hW3
    clear A0 hc1 hW3
    go_wp2_with (go_at_call 48; refine hdc'.out.mono ?_; rintro e w' ⟨rfl, hw⟩; obtain rfl := hw.symm)
    go_at_call 49
    refine hc1'.out.mono ?_
    rintro e w4 hce
    obtain ⟨rfl, A1⟩ := A0'.out.clos hce
    have A1' := Lib.hid A1
    clear A1 hce
    have r17 := A1'.out.e 17 _ rfl
    go_wp2_with fail
    have hbk : ∀ ks : List Key, ks.length ≤ 80 → Bnd (bumps L ks b) := fun ks hk => (BndN.bumps ⟨hb1, hb2⟩ hN'.out).bnd (by omega)
    have A1b : AddAt w w4 w.heap.size (w.heap.size + 1) w2.heap.size sb m [.int .i64 mi, v1, v2, v3, v4, v5, v6, v7, v8, v9, v10, v11, v12, v13, v14, v15, v16, .slice ga gs.length gc, .slice sa ss.length sc, .int .i64 b] day (bumps L ((day, 0, ByteArray.empty) :: (gs.take 0).map (fun g => (day, 1, g))) b) zs := A1'.out
    have A1b' := Lib.hid A1b
    have hbk' := Lib.hid hbk
    clear A1b hbk r17
    go_loopw [36] (fun i wr => ∃ k : Nat, k ≤ gs.length ∧ i = .int .i64 k ∧ AddAt w wr w.heap.size (w.heap.size + 1) w2.heap.size sb m [.int .i64 mi, v1, v2, v3, v4, v5, v6, v7, v8, v9, v10, v11, v12, v13, v14, v15, v16, .slice ga gs.length gc, .slice sa ss.length sc, .int .i64 b] day (bumps L ((day, 0, ByteArray.empty) :: (gs.take k).map (fun g => (day, 1, g))) b) zs) (fun i _ => gs.length - (intOf i).toNat)
    case atStart => exact ⟨0, by omega, rfl, A1b'.out⟩
    case round =>
      obtain ⟨k, hk0, rfl, hA⟩ := hrel
      by_cases hk : k < gs.length
      · obtain ⟨ga', gc', hform, hgf⟩ := (hg'.out.kept hst'.out hA.kept).form
        cases hform
        obtain ⟨bb, o, rfl, hcell⟩ := hgf k hk
        obtain ⟨z, hzk⟩ : ∃ z, z = gs.getD k ByteArray.empty := ⟨_, rfl⟩
        rw [← hzk] at hcell
        have hcl := addclos_any w2.heap.size w.heap.size (w.heap.size + 1) sb m 1 z day b _ wr hA.d hA.s (hA.e 19 _ rfl) hA.st.cell0 hA.st.2.2 (hbk'.out _ (by simp; omega)) ⟨hb1, hb2⟩
        have hA' := Lib.hid hA
        have hcl' := Lib.hid hcl
        have hzk' := Lib.hid hzk
        clear hA hcl hzk hgf
        go_wp2_with fail
        go_at_call 49
        refine hcl'.out.mono ?_
        rintro e w5 hce
        obtain ⟨rfl, A2⟩ := hA'.out.clos hce
        have A2' := Lib.hid A2
        clear A2 hce
        go_wp2_with fail
        refine ⟨⟨k + 1, by omega, by go_num, ?_⟩, by simp [intOf]; omega⟩
        rw [take_getD hk, List.map_append, ← List.cons_append]
        show AddAt _ _ _ _ _ _ _ _ _ (bumps L (_ ++ [(day, 1, gs.getD k ByteArray.empty)]) b) _
        rw [bumps_snoc, ← hzk'.out]
        exact A2'.out
      · obtain rfl : k = gs.length := by omega
        rw [List.take_length] at hA
        have r18 := hA.e 18 _ rfl
        have hA' := Lib.hid hA
        clear hA
        go_wp2_with fail
        obtain ⟨K1, hK1⟩ : ∃ K1, K1 = (day, (0 : Int), ByteArray.empty) :: gs.map (fun g => (day, (1 : Int), g)) := ⟨_, rfl⟩
        rw [← hK1] at hA'
        have hK1l : K1.length ≤ 21 := by rw [hK1]; simp; omega
        have hK1' := Lib.hid hK1
        clear hK1 r18
        go_loopw [47] (fun i wr => ∃ k : Nat, k ≤ ss.length ∧ i = .int .i64 k ∧ AddAt w wr w.heap.size (w.heap.size + 1) w2.heap.size sb m [.int .i64 mi, v1, v2, v3, v4, v5, v6, v7, v8, v9, v10, v11, v12, v13, v14, v15, v16, .slice ga gs.length gc, .slice sa ss.length sc, .int .i64 b] day (bumps L (K1 ++ (ss.take k).map (fun g => (day, 2, g))) b) zs) (fun i _ => ss.length - (intOf i).toNat)
        case atStart => exact ⟨0, by omega, rfl, by simpa using hA'.out⟩
        case round =>
          obtain ⟨k, hk0, rfl, hA⟩ := hrel
          by_cases hk : k < ss.length
          · obtain ⟨sa', sc', hform, hsf⟩ := (hs'.out.kept hst'.out hA.kept).form
            cases hform
            obtain ⟨bb, o, rfl, hcell⟩ := hsf k hk
            obtain ⟨z, hzk⟩ : ∃ z, z = ss.getD k ByteArray.empty := ⟨_, rfl⟩
            rw [← hzk] at hcell
            have hcl := addclos_any w2.heap.size w.heap.size (w.heap.size + 1) sb m 2 z day b _ wr hA.d hA.s (hA.e 19 _ rfl) hA.st.cell0 hA.st.2.2 (hbk'.out _ (by simp; omega)) ⟨hb1, hb2⟩
            have hA' := Lib.hid hA
            have hcl' := Lib.hid hcl
            have hzk' := Lib.hid hzk
            clear hA hcl hzk hsf
            go_wp2_with fail
            go_at_call 49
            refine hcl'.out.mono ?_
            rintro e w5 hce
            obtain ⟨rfl, A2⟩ := hA'.out.clos hce
            have A2' := Lib.hid A2
            clear A2 hce
            go_wp2_with fail
            refine ⟨⟨k + 1, by omega, by go_num, ?_⟩, by simp [intOf]; omega⟩
            rw [take_getD hk, List.map_append, ← List.append_assoc]
            show AddAt _ _ _ _ _ _ _ _ _ (bumps L (_ ++ [(day, 2, ss.getD k ByteArray.empty)]) b) _
            rw [bumps_snoc, ← hzk'.out]
            exact A2'.out
          · obtain rfl : k = ss.length := by omega
            rw [List.take_length] at hA
            have hrow : wr.rangeAt (w.heap.size + 1) 1 [v1, v2, v3, v4, v5, v6, v7, v8, v9, v10, v11, v12, v13, v14, v15, v16] := fun j v hj => by
              refine hA.e (1 + j) v ?_
              rcases Nat.lt_or_ge j 16 with h | h
              · rw [Nat.add_comm]
                exact (List.getElem?_append_left (l₂ := [.slice ga gs.length gc, .slice sa ss.length sc, .int .i64 b]) (by simpa using h)).trans hj
              · rw [List.getElem?_eq_none (by simpa using h)] at hj; cases hj
            obtain ⟨K2, hK2⟩ : ∃ K2, K2 = K1 ++ ss.map (fun g => (day, (2 : Int), g)) := ⟨_, rfl⟩
            rw [← hK2] at hA
            have hK2l : K2.length ≤ 71 := by rw [hK2]; simp; omega
            have hK2' := Lib.hid hK2
            have hA2' := Lib.hid hA
            clear hK2 hA
            go_wp2_with (refine wpList_load_mid rfl 24 _ rfl (w.heap.size + 1) 1 rfl _ _ hrow Tryz.underlying24 rfl rfl ?_)
            go_at_call 50
            refine (authortext_lit v1 v2 v3 v4 v5 v6 v7 v8 v9 v10 v11 v12 v13 v14 v15 v16 au hau'.out wr).mono ?_
            rintro e w6 ⟨rfl, hb6⟩
            have hA := hA2'.out.below hb6
            have hcl := addclos_any w2.heap.size w.heap.size (w.heap.size + 1) sb m 3 (auText au) day b _ w6 hA.d hA.s (hA.e 19 _ rfl) hA.st.cell0 hA.st.2.2 (hbk'.out _ (by omega)) ⟨hb1, hb2⟩
            have hA6' := Lib.hid hA
            have hcl' := Lib.hid hcl
            clear hA hcl hb6 hrow
            go_wp2_with fail
            go_at_call 49
            refine hcl'.out.mono ?_
            rintro e w7 hce
            obtain ⟨rfl, A2⟩ := hA6'.out.clos hce
            have A2' := Lib.hid A2
            clear A2 hce
            go_wp2_with fail
            obtain ⟨n, hn⟩ : ∃ n, n = Lib.bitLen b.toNat := ⟨_, rfl⟩
            have hn17 : n ≤ 17 := by rw [hn]; exact bitLen_le _ (by omega)
            obtain ⟨z, hzn⟩ : ∃ z, z = zs.getD n 0 := ⟨_, rfl⟩
            have hzl := A2'.out.st.2.1
            have hzb : 0 ≤ z ∧ z ≤ 900000 := by
              have hm : z ∈ zs := by rw [hzn, List.getD_eq_getElem?_getD, List.getElem?_eq_getElem (by omega), Option.getD_some]; exact List.getElem_mem _
              have := hz'.out z hm; omega
            have q0 := A2'.out.s
            have q1 := A2'.out.e 19 _ rfl
            have q2 : w7.cell? ⟨sb, 1 + n, none⟩ = some (.int .i64 z) := by
              rw [cell_of_row _ _ _ _ _ _ A2'.out.st.1, hzn, Nat.add_comm]
              simp [List.getD_eq_getElem?_getD, show n < zs.length by omega]
            have q3 : w7.frozen? ⟨sb, 1 + n, none⟩ = false := frozen_of_row _ _ _ _ _ A2'.out.st.1
            have hbl : ∀ W, Calls Tryz.prog 51 #[.int .u64 (IntKind.u64.wrap b)] W fun e w' => e = .returned (.int .i64 n) ∧ w' = W := fun W => by rw [hn, wrap_u64 b ⟨hb1, hb2⟩]; exact Tryz.bits_Len b W hb1 (by omega)
            have hbl' := Lib.hid hbl
            have hn' := Lib.hid hn
            have hzn' := Lib.hid hzn
            obtain ⟨hz1, hz2⟩ := hzb
            clear hbl hn hzn hzl
            have hx0 : (0 : Int) ≤ (n : Int) := by omega
            have hx1 : (n : Int) < 18 := by omega
            refine wp_region_still_tail 13 (by kernel_rfl) (by kernel_rfl) ?_
            simp only [List.take_succ_cons, List.take_zero, List.drop_succ_cons, List.drop_zero]
            repeat still_step
            still_call (hbl'.out _)
            repeat still_step
            refine wpStill_nil ?_
            have hA8 : AddAt w w7.drew _ _ _ _ _ _ _ _ _ := A2'.out.below ((Below.refl _ w7).drew)
            obtain ⟨w8, hw8⟩ : ∃ w8, w8 = w7.drew := ⟨_, rfl⟩
            rw [← hw8] at hA8
            have g2 : w8.cell? ⟨sb, 1 + n, none⟩ = some (.int .i64 z) := by rw [hw8]; exact q2
            have g3 : w8.frozen? ⟨sb, 1 + n, none⟩ = false := by rw [hw8]; exact q3
            change wpList _ _ _ _ _ w7.drew
            rw [← hw8]
            have hA8' := Lib.hid hA8
            clear q0 q1 q2 q3 hA8 hw8
            go_wp2_with fail
            go_ret
            have hs8 := hA8'.out.st
            refine ⟨ret_int her'.out, ⟨?_, ?_, ?_⟩, hA8'.out.kept.setCell _ _⟩
            · rw [addZ, if_pos her'.out.symm, heap_setCell_same _ _ _ _ _ _ hs8.1, incZ, ← hn'.out, ← hzn'.out]
              congr 2
              exact sizes_set _ _ _ _ (by have := hs8.2.1; omega)
            · rw [addZ, if_pos her'.out.symm, incZ, List.length_set]; exact hs8.2.1
            · rw [addL, if_pos her'.out.symm]
              have hkk : keysOf mi au gs ss = K2 ++ [(day, 3, auText au)] := by rw [hK2'.out, hK1'.out, hday'.out]; rfl
              rw [hkk, bumps_snoc]
              exact hs8.2.2.block (heap_setCell_other _ _ _ _ (by simp; exact fun e => hs8.lt.2.2 e.symm))
  · have her0 : (er != 0) = true := by simpa using he0
    go_enter Tryz.func26, Tryz.ntmps26
    go_wp2_with (refine wpList_load_row rfl 27 _ rfl (w.heap.size + 1) rfl _ _ _ _ (heap_alloc2_new _ _ _) Tryz.underlying27 rfl rfl ?_)
    go_at_call 31
    refine hck'.out.mono ?_
    rintro e w1 ⟨rfl, hb1⟩
    rw [← hW'.out] at hb1
    have hb1' := Lib.hid hb1
    clear hb1
    go_wp2_with fail
    go_ret
    have he0' : ¬ evErr mi gs ss b = 0 := by rw [← her'.out]; exact he0
    refine ⟨ret_int her'.out, ?_, Kept.ofBelow (hbW'.out.trans (hb1'.out.mono hbW'.out.size))⟩
    rw [addL, if_neg he0', addZ, if_neg he0']
    exact hstW'.out.below hb1'.out
end Go.Proofs.YtlemadbmlnjhpaaGreatDoor
namespace Go.Proofs.YtlemadbmlnjhpaaGreatDoor
open Go Go.RowKit Go.Proofs
set_option linter.unusedSimpArgs false
set_option linter.unusedVariables false

structure Ev where
  mi : Int
  au : List UInt8
  gs : List ByteArray
  ss : List ByteArray
  b : Int
def I64 (x : Int) : Prop := (Lit.int .i64 x).wf = true
def Ev.err (e : Ev) : Int := evErr e.mi e.gs e.ss e.b
def EvAt (w : World) (e : Ev) (cs : List Value) : Prop :=
  ∃ v1 v2 v3 v4 v5 v6 v7 v8 v9 v10 v11 v12 v13 v14 v15 v16 g sv, cs = [.int .i64 e.mi, v1, v2, v3, v4, v5, v6, v7, v8, v9, v10, v11, v12, v13, v14, v15, v16, g, sv, .int .i64 e.b] ∧
    [v1, v2, v3, v4, v5, v6, v7, v8, v9, v10, v11, v12, v13, v14, v15, v16] = byteVals e.au ∧ SliceStr w g e.gs ∧ SliceStr w sv e.ss ∧ I64 e.mi ∧ I64 e.b
theorem EvAt.below {w w' : World} {e : Ev} {cs : List Value} (h : EvAt w e cs) (hb : Below w.heap.size w w') : EvAt w' e cs := by
  obtain ⟨v1, v2, v3, v4, v5, v6, v7, v8, v9, v10, v11, v12, v13, v14, v15, v16, g, sv, h1, h2, h3, h4, h5⟩ := h
  exact ⟨v1, v2, v3, v4, v5, v6, v7, v8, v9, v10, v11, v12, v13, v14, v15, v16, g, sv, h1, h2, h3.below hb, h4.below hb, h5⟩
theorem EvAt.kept {w w' : World} {e : Ev} {cs : List Value} {sb m : Nat} {L : List (Key × Cnt)} {ns : List Int} (h : EvAt w e cs) (hs : StatsAt w sb m L ns) (hk : Kept w.heap.size sb m w w') : EvAt w' e cs := by
  obtain ⟨v1, v2, v3, v4, v5, v6, v7, v8, v9, v10, v11, v12, v13, v14, v15, v16, g, sv, h1, h2, h3, h4, h5⟩ := h
  exact ⟨v1, v2, v3, v4, v5, v6, v7, v8, v9, v10, v11, v12, v13, v14, v15, v16, g, sv, h1, h2, h3.kept hs hk, h4.kept hs hk, h5⟩
theorem EvAt.len {w : World} {e : Ev} {cs : List Value} (h : EvAt w e cs) : cs.length = 20 := by
  obtain ⟨v1, v2, v3, v4, v5, v6, v7, v8, v9, v10, v11, v12, v13, v14, v15, v16, g, sv, h1, _⟩ := h
  rw [h1]; rfl

/-- a slice of events in memory -/
def SliceEv (w : World) (v : Value) (es : List Ev) : Prop :=
  (∃ A c, v = .slice A 0 c ∧ es = []) ∨ ∃ bb o c, v = .slice (some ⟨bb, o, none⟩) es.length c ∧ (c ≤ 9223372036854775807 ∧ es.length ≤ 9223372036854775807) ∧ bb < w.heap.size ∧
    ∀ k e, es[k]? = some e → ∃ cs, w.rangeAt bb (o + k * 20) cs ∧ EvAt w e cs
theorem SliceEv.below {w w' : World} {v : Value} {es : List Ev} (h : SliceEv w v es) (hb : Below w.heap.size w w') : SliceEv w' v es := by
  rcases h with h | ⟨bb, o, c, rfl, g2, g3, g4⟩
  · exact Or.inl h
  · refine Or.inr ⟨bb, o, c, rfl, g2, Nat.lt_of_lt_of_le g3 hb.size, fun k e hk => ?_⟩
    obtain ⟨cs, h1, h2⟩ := g4 k e hk
    exact ⟨cs, fun j v hj => (hb.cell (p := ⟨bb, _, none⟩) g3).trans (h1 j v hj), h2.below hb⟩
theorem SliceEv.kept {w w' : World} {v : Value} {es : List Ev} {sb m : Nat} {L : List (Key × Cnt)} {ns : List Int} (h : SliceEv w v es) (hs : StatsAt w sb m L ns) (hk : Kept w.heap.size sb m w w') : SliceEv w' v es := by
  rcases h with h | ⟨bb, o, c, rfl, g2, g3, g4⟩
  · exact Or.inl h
  · refine Or.inr ⟨bb, o, c, rfl, g2, Nat.lt_of_lt_of_le g3 hk.size, fun k e hke => ?_⟩
    obtain ⟨cs, h1, h2⟩ := g4 k e hke
    have h2k := h2.kept hs hk
    obtain ⟨v1, v2, v3, v4, v5, v6, v7, v8, v9, v10, v11, v12, v13, v14, v15, v16, g, sv, e1, _, e3, _⟩ := h2
    obtain ⟨A, c', hgf, _⟩ := e3.form
    have hc := h1 17 g (by rw [e1]; rfl)
    have n1 : bb ≠ m := hs.2.2.notCell hc
    have n2 : bb ≠ sb := fun e => by
      subst e
      rw [cell_of_row _ _ _ _ _ _ hs.1, hgf] at hc
      rcases hq : (o + k * 20 + 17) with _ | q
      · omega
      · rw [hq] at hc
        simp at hc
    refine ⟨cs, fun j v hj => ?_, h2k⟩
    rw [World.cell?_of_block (hk.block bb g3 n2 n1)]; exact h1 j v hj
theorem SliceEv.form {w : World} {v : Value} {es : List Ev} (h : SliceEv w v es) :
    ∃ A c, v = .slice A es.length c ∧ es.length ≤ 9223372036854775807 ∧ ∀ k e, es[k]? = some e → ∃ bb o cs, A = some ⟨bb, o, none⟩ ∧ w.rangeAt bb (o + k * 20) cs ∧ EvAt w e cs := by
  rcases h with ⟨A, c, rfl, rfl⟩ | ⟨bb, o, c, rfl, g2, g3, g4⟩
  · exact ⟨_, _, rfl, by simp, fun k e hk => by simp at hk⟩
  · exact ⟨_, _, rfl, g2.2, fun k e hk => by obtain ⟨cs, h1, h2⟩ := g4 k e hk; exact ⟨bb, o, cs, rfl, h1, h2⟩⟩

theorem mday_lit (mi b : Int) (v1 v2 v3 v4 v5 v6 v7 v8 v9 v10 v11 v12 v13 v14 v15 v16 g sv : Value) (w : World) (h0 : 0 ≤ mi) (h1 : mi ≤ 105190559) :
    Calls Tryz.prog 34 #[.agg #[.int .i64 mi, v1, v2, v3, v4, v5, v6, v7, v8, v9, v10, v11, v12, v13, v14, v15, v16, g, sv, .int .i64 b]] w fun e w' => e = .returned (.int .i64 (mi / 1440)) ∧ Below w.heap.size w w' := by
  go_enter Tryz.func34, Tryz.ntmps34
  go_wp2_with fail
  go_ret
  exact ⟨rfl, (Below.refl _ _).alloc (Nat.le_refl _) _⟩

/-- the model's names of a kind -/
def Ev.names (e : Ev) (kind : Int) : List ByteArray := if kind = 2 then e.ss else if kind = 3 then [auText e.au] else e.gs
def hasL (l : List ByteArray) (name : ByteArray) : Bool := l.any fun x => x.toList == name.toList
def Ev.has (e : Ev) (kind : Int) (name : ByteArray) : Bool := hasL (e.names kind) name && (decide (1 ≤ kind) && decide (kind ≤ 3))
theorem hasL_upto {l : List ByteArray} {name : ByteArray} (h : ∀ j, j < l.length → l.getD j ByteArray.empty ≠ name) : hasL l name = false := by
  rw [hasL, List.any_eq_false]
  intro x hx
  obtain ⟨j, hj, rfl⟩ := List.getElem_of_mem hx
  have := h j hj
  rw [List.getD_eq_getElem?_getD, List.getElem?_eq_getElem hj, Option.getD_some] at this
  intro e
  exact this (bytes_beq_true (by simpa using e))
theorem hasL_at {l : List ByteArray} {name : ByteArray} {k : Nat} (hk : k < l.length) (h : l.getD k ByteArray.empty = name) : hasL l name = true := by
  rw [hasL, List.any_eq_true]
  rw [List.getD_eq_getElem?_getD, List.getElem?_eq_getElem hk, Option.getD_some] at h
  exact ⟨_, List.getElem_mem hk, by rw [h]; simp⟩

theorem au_row {w : World} {bl : Nat} {T : TypeId} {x0 v1 v2 v3 v4 v5 v6 v7 v8 v9 v10 v11 v12 v13 v14 v15 v16 x1 x2 x3 : Value} (h : w.heap[bl]? = some (.cells #[x0, v1, v2, v3, v4, v5, v6, v7, v8, v9, v10, v11, v12, v13, v14, v15, v16, x1, x2, x3] T (0, 0))) :
    w.rangeAt bl 1 [v1, v2, v3, v4, v5, v6, v7, v8, v9, v10, v11, v12, v13, v14, v15, v16] := fun j v hj => by
  rw [cell_of_row _ _ _ _ _ _ h]
  show ([x0, v1, v2, v3, v4, v5, v6, v7, v8, v9, v10, v11, v12, v13, v14, v15, v16, x1, x2, x3] : List Value).toArray[1 + j]? = _
  rw [List.getElem?_toArray, Nat.add_comm, List.getElem?_cons_succ]
  rcases Nat.lt_or_ge j 16 with h | h
  · exact (List.getElem?_append_left (l₁ := [v1, v2, v3, v4, v5, v6, v7, v8, v9, v10, v11, v12, v13, v14, v15, v16]) (l₂ := [x1, x2, x3]) (by simpa using h)).trans hj
  · rw [List.getElem?_eq_none (by simpa using h)] at hj; cases hj
theorem SliceStr.len_le {w : World} {v : Value} {zs : List ByteArray} (h : SliceStr w v zs) : zs.length ≤ 9223372036854775807 := by
  rcases h with ⟨A, c, rfl, rfl⟩ | ⟨bb, o, c, rfl, g1, g2, g3, g4, g5⟩
  · simp
  · exact g2.2
theorem auText_le {au : List UInt8} (h : au.length = 16) : (auText au).size ≤ 9223372036854775807 := by
  rw [auText, mkS_size, hexL_length, h]; decide
set_option maxRecDepth 100000 in
set_option maxHeartbeats 3200000 in
theorem has_lit (ev : Ev) (v1 v2 v3 v4 v5 v6 v7 v8 v9 v10 v11 v12 v13 v14 v15 v16 g sv : Value) (hau : [v1, v2, v3, v4, v5, v6, v7, v8, v9, v10, v11, v12, v13, v14, v15, v16] = byteVals ev.au)
    (kind : Int) (name : ByteArray) (w : World) (hg : SliceStr w g ev.gs) (hs : SliceStr w sv ev.ss) :
    Calls Tryz.prog 35 #[.agg #[.int .i64 ev.mi, v1, v2, v3, v4, v5, v6, v7, v8, v9, v10, v11, v12, v13, v14, v15, v16, g, sv, .int .i64 ev.b], .int .i64 kind, .string name] w
      fun e w' => e = .returned (.bool (ev.has kind name)) ∧ Below w.heap.size w w' := by
  obtain ⟨mi, hmi⟩ : ∃ x, x = ev.mi := ⟨_, rfl⟩
  obtain ⟨b, hb⟩ : ∃ x, x = ev.b := ⟨_, rfl⟩
  rw [← hmi, ← hb]
  have hb0 := Lib.hid ((Below.refl w.heap.size w).alloc (Nat.le_refl _) (.cells #[.int .i64 mi, v1, v2, v3, v4, v5, v6, v7, v8, v9, v10, v11, v12, v13, v14, v15, v16, g, sv, .int .i64 b] 27))
  have hg' := Lib.hid (hg.below hb0.out)
  have hs' := Lib.hid (hs.below hb0.out)
  have hau' := Lib.hid hau
  clear hg hs hau hmi hb
  obtain ⟨ga, gc, rfl, hgf⟩ := hg'.out.form
  obtain ⟨sa, sc, rfl, hsf⟩ := hs'.out.form
  clear hgf hsf
  have hrow := au_row (heap_alloc_new w (.cells #[.int .i64 mi, v1, v2, v3, v4, v5, v6, v7, v8, v9, v10, v11, v12, v13, v14, v15, v16, .slice ga ev.gs.length gc, .slice sa ev.ss.length sc, .int .i64 b] 27))
  have hgl := hg'.out.len_le
  have hsl := hs'.out.len_le
  by_cases hk2 : kind = 2
  · subst hk2
    clear hrow
    have hn : Hid (ev.names 2 = ev.ss) := rfl
    go_enter Tryz.func35, Tryz.ntmps35
    go_wp2_with fail
    obtain ⟨W9, hW9⟩ : ∃ W9, W9 = w.alloc (.cells #[.int .i64 mi, v1, v2, v3, v4, v5, v6, v7, v8, v9, v10, v11, v12, v13, v14, v15, v16, .slice ga ev.gs.length gc, .slice sa ev.ss.length sc, .int .i64 b] 27) := ⟨_, rfl⟩
    rw [← hW9]
    rw [← hW9] at hs' hb0
    have hsl' := hs'
    have hbl' := hb0
    clear hW9 hg'
    go_loop [8] (fun i => ∃ k : Nat, Upto (ev.ss).length k (fun j => (ev.ss).getD j ByteArray.empty ≠ name) ∧ i = .int .i64 k) (fun i => (ev.ss).length - (intOf i).toNat)
    case atStart => exact ⟨0, Upto.zero _ _, rfl⟩
    case round =>
      obtain ⟨k, hup, rfl⟩ := hrel
      have hup' := Lib.hid hup
      clear hup
      by_cases hk : k < (ev.ss).length
      · obtain ⟨ga', gc', hform, hgf⟩ := hsl'.out.form
        cases hform
        obtain ⟨bb, o, rfl, hcell⟩ := hgf k hk
        obtain ⟨z, hzk⟩ : ∃ z, z = (ev.ss).getD k ByteArray.empty := ⟨_, rfl⟩
        rw [← hzk] at hcell
        have hzk' := Lib.hid hzk
        clear hzk hgf
        go_wp2_with fail
        · have hyz : z = name := bytes_beq_true (by assumption)
          go_ret
          refine ⟨ret_bool ?_, hbl'.out⟩
          rw [Ev.has, hn.out, hasL_at hk (by rw [← hzk'.out]; exact hyz)]
          try rfl
        · have hyz : z ≠ name := bytes_beq_false (by assumption)
          exact ⟨⟨k + 1, hup'.out.next hk (by rw [← hzk'.out]; exact hyz), by go_num⟩, by simp [intOf]; omega⟩
      · go_wp2_with fail
        go_ret
        refine ⟨ret_bool ?_, hbl'.out⟩
        rw [Ev.has, hn.out, hasL_upto (fun j hj => hup'.out.2 j (by omega)), Bool.false_and]
  by_cases hk3 : kind = 3
  · subst hk3
    have hn : Hid (ev.names 3 = [auText ev.au]) := rfl
    go_enter Tryz.func35, Tryz.ntmps35
    go_wp2_with (refine wpList_load_mid rfl 24 _ rfl w.heap.size 1 rfl _ _ hrow Tryz.underlying24 rfl rfl ?_)
    go_at_call 29
    refine (refauthor_lit v1 v2 v3 v4 v5 v6 v7 v8 v9 v10 v11 v12 v13 v14 v15 v16 ev.au hau'.out _).mono ?_
    rintro e w6 ⟨rfl, hb6⟩
    have hb60 : Below w.heap.size w w6 := hb0.out.trans (hb6.mono (by simp))
    have hb6' := Lib.hid hb60
    clear hb6 hb60 hrow
    obtain ⟨tx, htx⟩ : ∃ t, t = auText ev.au := ⟨_, rfl⟩
    rw [← htx] at hn
    rw [← htx]
    have htz : tx.size ≤ 9223372036854775807 := by rw [htx]; exact auText_le (by have := congrArg List.length hau'.out; simpa [byteVals] using this.symm)
    clear htx
    go_wp2_with fail
    have hsl0 : SliceStr (w6.alloc (.cells #[.string tx] 9)) (.slice (some ⟨w6.heap.size, 0, none⟩) [tx].length 1) [tx] := by
      refine Or.inr ⟨w6.heap.size, 0, 1, rfl, Nat.le_refl 1, ⟨by decide, by show 1 ≤ 9223372036854775807; decide⟩, by simp, fun k hk => ?_, fun z hz => ?_⟩
      · obtain rfl : k = 0 := by simp at hk; omega
        rw [cell_of_row _ _ _ _ _ _ (heap_alloc_new w6 _)]; rfl
      · rw [List.mem_singleton.1 hz]; exact htz
    have hbl0 : Below w.heap.size w (w6.alloc (.cells #[.string tx] 9)) := hb6'.out.alloc hb6'.out.size _
    obtain ⟨W9, hW9⟩ : ∃ W9, W9 = w6.alloc (.cells #[.string tx] 9) := ⟨_, rfl⟩
    rw [← hW9]
    rw [← hW9] at hsl0 hbl0
    have hsl' := Lib.hid hsl0
    have hbl' := Lib.hid hbl0
    clear hW9 hsl0 hbl0 htz
    go_loop [8] (fun i => ∃ k : Nat, Upto ([tx]).length k (fun j => ([tx]).getD j ByteArray.empty ≠ name) ∧ i = .int .i64 k) (fun i => ([tx]).length - (intOf i).toNat)
    case atStart => exact ⟨0, Upto.zero _ _, rfl⟩
    case round =>
      obtain ⟨k, hup, rfl⟩ := hrel
      have hup' := Lib.hid hup
      clear hup
      by_cases hk : k < ([tx]).length
      · obtain ⟨ga', gc', hform, hgf⟩ := hsl'.out.form
        cases hform
        obtain ⟨bb, o, hA, hcell⟩ := hgf k hk
        cases hA
        obtain rfl : k = 0 := by simp at hk; omega
        rw [Nat.zero_add] at hcell
        obtain ⟨z, hzk⟩ : ∃ z, z = ([tx]).getD 0 ByteArray.empty := ⟨_, rfl⟩
        rw [← hzk] at hcell
        clear hk
        have hk : (0 : Nat) < [tx].length := by simp
        have hzk' := Lib.hid hzk
        clear hzk hgf
        go_wp2_with fail
        · have hyz : z = name := bytes_beq_true (by assumption)
          go_ret
          refine ⟨ret_bool ?_, hbl'.out⟩
          rw [Ev.has, hn.out, hasL_at hk (by rw [← hzk'.out]; exact hyz)]
          try rfl
        · have hyz : z ≠ name := bytes_beq_false (by assumption)
          exact ⟨⟨1, hup'.out.next hk (by rw [← hzk'.out]; exact hyz), by go_num⟩, by simp [intOf]⟩
      · obtain rfl : k = 1 := by have := hup'.out.1; simp at hk this; omega
        go_wp2_with fail
        go_ret
        refine ⟨ret_bool ?_, hbl'.out⟩
        rw [Ev.has, hn.out, hasL_upto (fun j hj => hup'.out.2 j (by simpa using hj)), Bool.false_and]
  have hn : Hid (ev.names kind = ev.gs) := by show ev.names kind = ev.gs; rw [Ev.names, if_neg hk2, if_neg hk3]
  have hk2' : (kind == 2) = false := beq_eq_false_iff_ne.2 hk2
  have hk3' : (kind == 3) = false := beq_eq_false_iff_ne.2 hk3
  · clear hrow hk2 hk3
    go_enter Tryz.func35, Tryz.ntmps35
    go_wp2_with fail
    obtain ⟨W9, hW9⟩ : ∃ W9, W9 = w.alloc (.cells #[.int .i64 mi, v1, v2, v3, v4, v5, v6, v7, v8, v9, v10, v11, v12, v13, v14, v15, v16, .slice ga ev.gs.length gc, .slice sa ev.ss.length sc, .int .i64 b] 27) := ⟨_, rfl⟩
    rw [← hW9]
    rw [← hW9] at hg' hb0
    have hsl' := hg'
    have hbl' := hb0
    clear hW9 hs' hk2' hk3'
    go_loop [8] (fun i => ∃ k : Nat, Upto (ev.gs).length k (fun j => (ev.gs).getD j ByteArray.empty ≠ name) ∧ i = .int .i64 k) (fun i => (ev.gs).length - (intOf i).toNat)
    case atStart => exact ⟨0, Upto.zero _ _, rfl⟩
    case round =>
      obtain ⟨k, hup, rfl⟩ := hrel
      have hup' := Lib.hid hup
      clear hup
      by_cases hk : k < (ev.gs).length
      · obtain ⟨ga', gc', hform, hgf⟩ := hsl'.out.form
        cases hform
        obtain ⟨bb, o, rfl, hcell⟩ := hgf k hk
        obtain ⟨z, hzk⟩ : ∃ z, z = (ev.gs).getD k ByteArray.empty := ⟨_, rfl⟩
        rw [← hzk] at hcell
        have hzk' := Lib.hid hzk
        clear hzk hgf
        by_cases hka : 1 ≤ kind
        · by_cases hkb : kind ≤ 3
          · go_wp2_with fail
            · have hyz : z = name := bytes_beq_true (by assumption)
              go_ret
              refine ⟨ret_bool ?_, hbl'.out⟩
              rw [Ev.has, hn.out, hasL_at hk (by rw [← hzk'.out]; exact hyz)]
              simp [*]
            · have hyz : z ≠ name := bytes_beq_false (by assumption)
              exact ⟨⟨k + 1, hup'.out.next hk (by rw [← hzk'.out]; exact hyz), by go_num⟩, by simp [intOf]; omega⟩
          · have hkc : 3 < kind := by omega
            clear hkb
            go_wp2_with fail
            · have hyz : z = name := bytes_beq_true (by assumption)
              go_ret
              refine ⟨ret_bool ?_, hbl'.out⟩
              rw [Ev.has, show decide (kind ≤ 3) = false from decide_eq_false (by omega), Bool.and_false, Bool.and_false]
              try (simp; omega)
            · have hyz : z ≠ name := bytes_beq_false (by assumption)
              exact ⟨⟨k + 1, hup'.out.next hk (by rw [← hzk'.out]; exact hyz), by go_num⟩, by simp [intOf]; omega⟩
        · have hkc : kind < 1 := by omega
          clear hka
          go_wp2_with fail
          · have hyz : z = name := bytes_beq_true (by assumption)
            go_ret
            refine ⟨ret_bool ?_, hbl'.out⟩
            rw [Ev.has, show decide (1 ≤ kind) = false from decide_eq_false (by omega), Bool.false_and, Bool.and_false]
            try (simp; omega)
          · have hyz : z ≠ name := bytes_beq_false (by assumption)
            exact ⟨⟨k + 1, hup'.out.next hk (by rw [← hzk'.out]; exact hyz), by go_num⟩, by simp [intOf]; omega⟩
      · go_wp2_with fail
        go_ret
        refine ⟨ret_bool ?_, hbl'.out⟩
        rw [Ev.has, hn.out, hasL_upto (fun j hj => hup'.out.2 j (by omega)), Bool.false_and]
end Go.Proofs.YtlemadbmlnjhpaaGreatDoor
