/- The contracts of stats.Add: date's Valid and Day, bits.Len, the sums behind an article, Add. -/
import Derived.Test.YtlemadbmlnjhpaaGreatDoorKB
namespace Go.Proofs.YtlemadbmlnjhpaaGreatDoor
open Go Go.RowKit Go.Proofs
open Go.ChangeMaps (setBlock)
set_option linter.unusedSimpArgs false
set_option linter.unusedVariables false

/-- what a call that turns the statistics alone leaves as it was -/
structure Kept (B sb m : Nat) (w w' : World) : Prop where
  os : w'.os = w.os
  tape : w'.tape = w.tape
  output : w'.output = w.output
  size : w.heap.size ≤ w'.heap.size
  block : ∀ i, i < B → i ≠ sb → i ≠ m → w'.heap[i]? = w.heap[i]?
theorem Kept.refl (B sb m : Nat) (w : World) : Kept B sb m w w := ⟨rfl, rfl, rfl, Nat.le_refl _, fun _ _ _ _ => rfl⟩
theorem Kept.trans {B sb m : Nat} {a b c : World} (h : Kept B sb m a b) (k : Kept B sb m b c) : Kept B sb m a c :=
  ⟨k.os.trans h.os, k.tape.trans h.tape, k.output.trans h.output, Nat.le_trans h.size k.size, fun i h1 h2 h3 => (k.block i h1 h2 h3).trans (h.block i h1 h2 h3)⟩
theorem Kept.mono {B B' sb m : Nat} {a b : World} (h : Kept B sb m a b) (hB : B' ≤ B) : Kept B' sb m a b :=
  ⟨h.os, h.tape, h.output, h.size, fun i h1 h2 h3 => h.block i (by omega) h2 h3⟩
theorem Kept.ofBelow {B sb m : Nat} {a b : World} (h : Below B a b) : Kept B sb m a b := ⟨h.os, h.tape, h.output, h.size, fun i h1 _ _ => h.block i h1⟩
theorem Kept.below {B sb m : Nat} {a b c : World} (h : Kept B sb m a b) (k : Below b.heap.size b c) (hB : B ≤ b.heap.size) : Kept B sb m a c := h.trans (Kept.ofBelow (k.mono hB))
theorem Kept.grown {B sb m : Nat} {a b c : World} (h : Kept B sb m a b) (k : b.grownBy c (some m)) (hB : B ≤ b.heap.size) : Kept B sb m a c :=
  h.trans ⟨k.os, k.tape, k.output, k.size, fun i h1 h2 h3 => k.block i (by omega) (fun e => h3 (by cases e; rfl))⟩
theorem Kept.setCell {B sb m : Nat} {a b : World} (h : Kept B sb m a b) (o : Nat) (u : Value) : Kept B sb m a (b.setCell ⟨sb, o, none⟩ u) :=
  ⟨h.os, h.tape, h.output, by simpa using h.size, fun i h1 h2 h3 => by rw [heap_setCell_other _ _ _ _ (by simpa using h2)]; exact h.block i h1 h2 h3⟩

theorem valid_any (m : Int) (w : World) : Calls Tryz.prog 68 #[.int .i64 m] w fun e w' => e = .returned (.bool (decide (0 ≤ m) && decide (m ≤ 105190559))) ∧ w' = w := by
  by_cases h0 : 0 ≤ m
  · by_cases h1 : m ≤ 105190559
    · go_enter Tryz.func68, Tryz.ntmps68
      go_wp2_with fail
      go_ret
      exact ⟨ret_bool (by simp [h0, h1]), rfl⟩
    · have h1' : 105190559 < m := by omega
      go_enter Tryz.func68, Tryz.ntmps68
      go_wp2_with fail
      go_ret
      exact ⟨ret_bool (by simp [h0, h1]), rfl⟩
  · have h1' : m < 0 := by omega
    go_enter Tryz.func68, Tryz.ntmps68
    go_wp2_with fail
    go_ret
    exact ⟨ret_bool (by simp; omega), rfl⟩
theorem day_any (m : Int) (w : World) (h0 : 0 ≤ m) (h1 : m ≤ 105190559) : Calls Tryz.prog 48 #[.int .i64 m] w fun e w' => e = .returned (.tuple #[.int .i64 (m / 1440), .int .i64 0]) ∧ w' = w := by
  have hv := Lib.hid (valid_any m w)
  have hd : (decide (0 ≤ m) && decide (m ≤ 105190559)) = true := by simp [h0, h1]
  rw [hd] at hv
  clear hd
  go_enter Tryz.func48, Tryz.ntmps48
  go_wp2_with (go_at_call 68; refine hv.out.mono ?_; rintro e w' ⟨rfl, rfl⟩)
  exact bodyPost_ret (v := .tuple #[.int .i64 (m / 1440), .int .i64 0]) (by simp [results, Tryz.results48, go_sem]) rfl ⟨rfl, rfl⟩

/-! the sums -/
theorem findL_snd (k : Key) : ∀ (L : List (Key × Cnt)) (i j : Nat), (findL k L i).map Prod.snd = (findL k L j).map Prod.snd
  | [], _, _ => rfl
  | p :: r, i, j => by
    unfold findL
    split
    · rfl
    · exact findL_snd k r (i + 1) (j + 1)
theorem getL_cons (k : Key) (q : Key × Cnt) (r : List (Key × Cnt)) : getL k (q :: r) = if keyEq k q.1 then q.2 else getL k r := by
  unfold getL
  rw [findL]
  split
  · rfl
  · rw [findL_snd k r 1 0]
theorem sumBy_put (p : Key → Bool) (k : Key) (c : Cnt) : ∀ (L : List (Key × Cnt)),
    (sumBy p (putL k c L)).1 = (sumBy p L).1 + (if p k then c.1 - (getL k L).1 else 0) ∧ (sumBy p (putL k c L)).2 = (sumBy p L).2 + (if p k then c.2 - (getL k L).2 else 0)
  | [] => by
    unfold putL sumBy getL findL
    by_cases h : p k = true <;> simp [h, sumBy]
  | q :: r => by
    have ih := sumBy_put p k c r
    rw [putL, getL_cons]
    by_cases hk : keyEq k q.1 = true
    · have e : k = q.1 := (keyEq_iff _ _).1 hk
      rw [if_pos hk, if_pos hk]
      simp only [sumBy, ← e]
      by_cases h : p k = true
      · simp only [h, if_true]; omega
      · simp [h]
    · rw [if_neg hk, if_neg hk]
      simp only [sumBy]
      by_cases h : p q.1 = true
      · simp only [h, if_true]; omega
      · simp only [h]; exact ih
theorem sumBy_bump (p : Key → Bool) (k : Key) (b : Int) (L : List (Key × Cnt)) :
    (sumBy p (bump L k b)).1 = (sumBy p L).1 + (if p k then 1 else 0) ∧ (sumBy p (bump L k b)).2 = (sumBy p L).2 + (if p k then b else 0) := by
  have h := sumBy_put p k ((getL k L).1 + 1, (getL k L).2 + b) L
  unfold bump
  rw [h.1, h.2]
  constructor <;> split <;> simp <;> omega

/-- no count is negative, and the sums of all are at most N, and N articles' bytes -/
def BndN (L : List (Key × Cnt)) (N : Int) : Prop := (∀ q ∈ L, 0 ≤ q.2.1 ∧ 0 ≤ q.2.2) ∧ (sumBy (fun _ => true) L).1 ≤ N ∧ (sumBy (fun _ => true) L).2 ≤ N * 65536
theorem BndN.bnd {L : List (Key × Cnt)} {N : Int} (h : BndN L N) (hN : N ≤ 10000000) : Bnd L := ⟨h.1, by have := h.2.1; omega, by have := h.2.2; omega⟩
theorem BndN.mono {L : List (Key × Cnt)} {N M : Int} (h : BndN L N) (hN : N ≤ M) : BndN L M := ⟨h.1, by have := h.2.1; omega, by have := h.2.2; omega⟩
theorem getL_nonneg {k : Key} : ∀ {L : List (Key × Cnt)}, (∀ q ∈ L, 0 ≤ q.2.1 ∧ 0 ≤ q.2.2) → 0 ≤ (getL k L).1 ∧ 0 ≤ (getL k L).2
  | [], _ => by simp [getL, findL]
  | q :: r, h => by
    rw [getL_cons]
    split
    · exact h q (by simp)
    · exact getL_nonneg fun x hx => h x (by simp [hx])
theorem mem_putL {k : Key} {c : Cnt} {q : Key × Cnt} : ∀ {L : List (Key × Cnt)}, q ∈ putL k c L → q = (k, c) ∨ q ∈ L
  | [], h => by simp [putL] at h; exact Or.inl h
  | p :: r, h => by
    rw [putL] at h
    split at h
    · rcases List.mem_cons.1 h with h | h
      · exact Or.inl h
      · exact Or.inr (List.mem_cons_of_mem _ h)
    · rcases List.mem_cons.1 h with h | h
      · exact Or.inr (by simp [h])
      · rcases mem_putL h with h | h
        · exact Or.inl h
        · exact Or.inr (List.mem_cons_of_mem _ h)
theorem BndN.bump {L : List (Key × Cnt)} {N : Int} (h : BndN L N) (k : Key) (b : Int) (hb : 0 ≤ b ∧ b ≤ 65536) : BndN (bump L k b) (N + 1) := by
  have hs := sumBy_bump (fun _ => true) k b L
  have hn := getL_nonneg (k := k) h.1
  have h1 := h.2.1
  have h2 := h.2.2
  simp only [if_true] at hs
  refine ⟨fun q hq => ?_, by omega, by omega⟩
  rcases mem_putL hq with rfl | hq
  · exact ⟨by show 0 ≤ _ + 1; omega, by show 0 ≤ _ + b; omega⟩
  · exact h.1 q hq

def bumps (L : List (Key × Cnt)) (ks : List Key) (b : Int) : List (Key × Cnt) := ks.foldl (fun L k => bump L k b) L
theorem bumps_snoc (L : List (Key × Cnt)) (ks : List Key) (k : Key) (b : Int) : bumps L (ks ++ [k]) b = bump (bumps L ks b) k b := by simp [bumps]
theorem BndN.bumps {b : Int} (hb : 0 ≤ b ∧ b ≤ 65536) : ∀ {ks : List Key} {L : List (Key × Cnt)} {N : Int}, BndN L N → BndN (bumps L ks b) (N + ks.length)
  | [], L, N, h => by simpa [YtlemadbmlnjhpaaGreatDoor.bumps] using h
  | k :: r, L, N, h => by
    have := BndN.bumps hb (ks := r) (h.bump k b hb)
    have e : N + 1 + (r.length : Int) = N + ((k :: r).length : Int) := by simp; omega
    rw [e] at this; exact this
theorem sumBy_bumps (p : Key → Bool) (b : Int) : ∀ (ks : List Key) (L : List (Key × Cnt)),
    (sumBy p (bumps L ks b)).1 = (sumBy p L).1 + (ks.countP p : Nat) ∧ (sumBy p (bumps L ks b)).2 = (sumBy p L).2 + (ks.countP p : Nat) * b
  | [], L => by simp [bumps]
  | k :: r, L => by
    have ih := sumBy_bumps p b r (bump L k b)
    have hs := sumBy_bump p k b L
    rw [show bumps L (k :: r) b = bumps (bump L k b) r b from rfl, ih.1, ih.2, hs.1, hs.2, List.countP_cons]
    by_cases h : p k = true
    · simp only [h, if_true]
      constructor
      · omega
      · rw [Int.natCast_add, Int.add_mul]; simp; omega
    · simp [h]

def keysOf (mi : Int) (au : List UInt8) (gs ss : List ByteArray) : List Key :=
  ((mi / 1440, 0, ByteArray.empty) :: gs.map (fun g => (mi / 1440, 1, g))) ++ ss.map (fun s => (mi / 1440, 2, s)) ++ [(mi / 1440, 3, auText au)]
theorem keysOf_length (mi : Int) (au : List UInt8) (gs ss : List ByteArray) : (keysOf mi au gs ss).length = gs.length + ss.length + 2 := by simp [keysOf]; omega

theorem evErr_zero {m : Int} {gs ss : List ByteArray} {b : Int} (h : evErr m gs ss b = 0) : (0 ≤ m ∧ m ≤ 105190559) ∧ (gs.length ≤ 20 ∧ 0 < gs.length) ∧ ss.length ≤ 50 ∧ 0 ≤ b ∧ b ≤ 65536 := by
  unfold evErr at h
  split at h
  · cases h
  · split at h
    · omega
    · rename_i h2
      split at h
      · cases h
      · split at h
        · omega
        · split at h
          · cases h
          · refine ⟨by omega, ?_, by omega, by omega, by omega⟩
            have h3 : fmtErr gs = 0 := by simpa using h2
            unfold fmtErr glErr at h3
            split at h3
            · cases h3
            · split at h3
              · cases h3
              · exact ⟨by omega, by omega⟩

theorem bitLen_le (n : Nat) (h : n ≤ 65536) : Lib.bitLen n ≤ 17 := by
  have key : ∀ (f k n : Nat), n < 2 ^ k → Lib.bitLenAux f n ≤ k := by
    intro f
    induction f with
    | zero => intro k n _; simp [Lib.bitLenAux]
    | succ f ih =>
      intro k n hn
      unfold Lib.bitLenAux
      split
      · omega
      · cases k with
        | zero => simp at hn; omega
        | succ k =>
          have := ih k (n / 2) (by rw [Nat.pow_succ] at hn; omega)
          omega
  exact key 64 17 n (by omega)

def incZ (zs : List Int) (b : Int) : List Int := zs.set (Lib.bitLen b.toNat) (zs.getD (Lib.bitLen b.toNat) 0 + 1)
def addL (L : List (Key × Cnt)) (mi : Int) (au : List UInt8) (gs ss : List ByteArray) (b : Int) : List (Key × Cnt) := if evErr mi gs ss b = 0 then bumps L (keysOf mi au gs ss) b else L
def addZ (zs : List Int) (mi : Int) (gs ss : List ByteArray) (b : Int) : List Int := if evErr mi gs ss b = 0 then incZ zs b else zs
theorem BndN.add {L : List (Key × Cnt)} {N : Int} (h : BndN L N) (mi : Int) (au : List UInt8) (gs ss : List ByteArray) (b : Int) : BndN (addL L mi au gs ss b) (N + 100) := by
  unfold addL
  split
  · rename_i he
    obtain ⟨_, h2, h3, h4, h5⟩ := evErr_zero he
    exact (BndN.bumps ⟨h4, h5⟩ h).mono (by rw [keysOf_length]; omega)
  · exact h.mono (by omega)
def SzN (zs : List Int) (N : Int) : Prop := ∀ z ∈ zs, 0 ≤ z ∧ z ≤ N
theorem SzN.add {zs : List Int} {N : Int} (h : SzN zs N) (h0 : 0 ≤ N) (mi : Int) (gs ss : List ByteArray) (b : Int) : SzN (addZ zs mi gs ss b) (N + 100) := by
  unfold addZ
  split
  · intro z hz
    have hg : ∀ k, 0 ≤ zs.getD k 0 ∧ zs.getD k 0 ≤ N := fun k => by
      rw [List.getD_eq_getElem?_getD]
      cases hk : zs[k]? with
      | none => simp; omega
      | some y => simpa using h y (List.mem_of_getElem? hk)
    rcases List.mem_or_eq_of_mem_set hz with hz | rfl
    · have := h z hz; omega
    · have := hg (Lib.bitLen b.toNat); omega
  · intro z hz; have := h z hz; omega

/-- the middle of Add: its three boxes, the statistics, and what it leaves as it was -/
structure AddAt (w wr : World) (ib eb db sb m : Nat) (ev : List Value) (day : Int) (L : List (Key × Cnt)) (zs : List Int) : Prop where
  s : wr.cell? ⟨ib, 0, none⟩ = some (.pointer (some ⟨sb, 0, none⟩))
  d : wr.cell? ⟨db, 0, none⟩ = some (.int .i64 day)
  e : ∀ k v, ev[k]? = some v → wr.cell? ⟨eb, k, none⟩ = some v
  st : StatsAt wr sb m L zs
  kept : Kept w.heap.size sb m w wr
theorem MapIs.notCell {w : World} {m : Nat} {L : List (Key × Cnt)} (h : MapIs w m L) {x o : Nat} {v : Value} (hx : w.cell? ⟨x, o, none⟩ = some v) : x ≠ m := fun e => by
  subst e
  obtain ⟨es, clock, hh, _⟩ := h
  simp [World.cell?, hh] at hx
theorem AddAt.clos {w wr w' : World} {ib eb db sb m : Nat} {ev : List Value} {day : Int} {L L' : List (Key × Cnt)} {zs : List Int} {e : Ending} (h : AddAt w wr ib eb db sb m ev day L zs) (hc : ClosEnd wr m L' e w') : e = .returned (.tuple #[]) ∧ AddAt w w' ib eb db sb m ev day L' zs := by
  obtain ⟨he, hm, hg⟩ := hc
  have hm0 := h.st.2.2
  refine ⟨he, ⟨hg.cell h.s (by simp; exact hm0.notCell h.s), hg.cell h.d (by simp; exact hm0.notCell h.d), fun k v hk => hg.cell (h.e k v hk) (by simp; exact hm0.notCell (h.e k v hk)), ⟨?_, h.st.2.1, hm⟩, h.kept.grown hg h.kept.size⟩⟩
  exact (hg.block sb h.st.lt.1 (by simp; exact h.st.lt.2.2)).trans h.st.1
theorem AddAt.below {w wr w' : World} {ib eb db sb m : Nat} {ev : List Value} {day : Int} {L : List (Key × Cnt)} {zs : List Int} (h : AddAt w wr ib eb db sb m ev day L zs) (hb : Below wr.heap.size wr w') : AddAt w w' ib eb db sb m ev day L zs :=
  ⟨(hb.cell (p := ⟨ib, 0, none⟩) (World.block_lt_of_cell? wr _ h.s)).trans h.s, (hb.cell (p := ⟨db, 0, none⟩) (World.block_lt_of_cell? wr _ h.d)).trans h.d, fun k v hk => (hb.cell (p := ⟨eb, k, none⟩) (World.block_lt_of_cell? wr _ (h.e k v hk))).trans (h.e k v hk), h.st.below hb, h.kept.below hb h.kept.size⟩

/-- a slice of strings that lies neither in the statistics' block nor in their map's outlives a change of them -/
theorem SliceStr.kept {w w' : World} {v : Value} {zs : List ByteArray} {sb m : Nat} {L : List (Key × Cnt)} {ns : List Int} (h : SliceStr w v zs) (hs : StatsAt w sb m L ns) (hk : Kept w.heap.size sb m w w') : SliceStr w' v zs := by
  rcases h with h | ⟨bb, o, c, rfl, g1, g2, g3, g4, g5⟩
  · exact Or.inl h
  · refine Or.inr ⟨bb, o, c, rfl, g1, g2, Nat.lt_of_lt_of_le g3 hk.size, fun k hk' => ?_, g5⟩
    have hc := g4 k hk'
    have n1 : bb ≠ m := hs.2.2.notCell hc
    have n2 : bb ≠ sb := fun e => by
      subst e
      rw [cell_of_row _ _ _ _ _ _ hs.1] at hc
      rcases hq : (o + k) with _ | q
      · rw [hq] at hc; simp at hc
      · rw [hq] at hc
        simp at hc
    rw [World.cell?_of_block (hk.block bb g3 n2 n1)]; exact hc
theorem SliceStr.form {w : World} {v : Value} {zs : List ByteArray} (h : SliceStr w v zs) : ∃ A c, v = .slice A zs.length c ∧ ∀ k, k < zs.length → ∃ bb o, A = some ⟨bb, o, none⟩ ∧ w.cell? ⟨bb, o + k, none⟩ = some (.string (zs.getD k ByteArray.empty)) := by
  rcases h with ⟨A, c, rfl, rfl⟩ | ⟨bb, o, c, rfl, g1, g2, g3, g4, g5⟩
  · exact ⟨_, _, rfl, fun k hk => by simp at hk⟩
  · exact ⟨_, _, rfl, fun k hk => ⟨bb, o, rfl, g4 k hk⟩⟩
end Go.Proofs.YtlemadbmlnjhpaaGreatDoor
