/- The contracts of stats: New, the closure of Add, Add; date's Day. -/
import Derived.Test.YtlemadbmlnjhpaaGreatDoorKA
import Derived.Deep.RegionHeld3
namespace Go.Proofs.YtlemadbmlnjhpaaGreatDoor
open Go Go.RowKit Go.Proofs
open Go.ChangeMaps (setBlock)
set_option linter.unusedSimpArgs false
set_option linter.unusedVariables false

def noSizes : List Int := List.replicate 18 0
def NewEnd (w : World) (e : Ending) (w' : World) : Prop := e = .returned (.pointer (some ⟨w.heap.size + 1, 0, none⟩)) ∧ StatsAt w' (w.heap.size + 1) w.heap.size [] noSizes ∧ Below w.heap.size w w'
theorem new_any (w : World) : Calls Tryz.prog 25 #[] w (NewEnd w) := by
  have hmm := @run_makeMap Tryz.prog
  go_enter Tryz.func25, Tryz.ntmps25
  go_wp2_with fail
  go_ret
  refine ⟨rfl, ⟨?_, rfl, ?_⟩, ((Below.refl _ w).alloc (Nat.le_refl _) _).alloc (by simp) _⟩
  · exact heap_alloc2_new _ _ _
  · exact (MapIs.made w).block (heap_alloc_old _ _ (by simp))

/-- one more article of b bytes for a key -/
def bump (L : List (Key × Cnt)) (k : Key) (b : Int) : List (Key × Cnt) := putL k ((getL k L).1 + 1, (getL k L).2 + b) L

theorem getL_bound {k : Key} {L : List (Key × Cnt)} (h : Bnd L) : 0 ≤ (getL k L).1 ∧ (getL k L).1 ≤ 1000000000000 ∧ 0 ≤ (getL k L).2 ∧ (getL k L).2 ≤ 1000000000000 := by
  unfold getL
  cases hq : findL k L 0 with
  | none => simp
  | some p =>
    obtain ⟨j, d⟩ := p
    have hm : ∀ (L : List (Key × Cnt)) (i : Nat), findL k L i = some (j, d) → ∃ q ∈ L, q.2 = d := by
      intro L
      induction L with
      | nil => intro i h; cases h
      | cons p r ih =>
        intro i h
        unfold findL at h
        split at h
        · exact ⟨p, by simp, by simpa using congrArg Prod.snd (Option.some.inj h)⟩
        · obtain ⟨q, hq, he⟩ := ih (i + 1) h; exact ⟨q, by simp [hq], he⟩
    obtain ⟨q, hql, hqd⟩ := hm L 0 hq
    subst hqd
    have hb : ∀ (L : List (Key × Cnt)), (∀ q ∈ L, 0 ≤ q.2.1 ∧ 0 ≤ q.2.2) → q ∈ L → q.2.1 ≤ (sumBy (fun _ => true) L).1 ∧ q.2.2 ≤ (sumBy (fun _ => true) L).2 := by
      intro L
      induction L with
      | nil => intro _ h; cases h
      | cons p r ih =>
        intro hL hq
        have hp := hL p (by simp)
        have hs := sumBy_bound (fun _ => true) (L := r) (fun x hx => hL x (by simp [hx]))
        simp only [sumBy, if_true]
        rcases List.mem_cons.1 hq with rfl | hq
        · omega
        · have := ih (fun x hx => hL x (by simp [hx])) hq; omega
    have h1 := hb L h.1 hql
    have h2 := h.1 q hql
    have h3 := h.2
    simp only [Option.map_some, Option.getD_some]
    omega

def ClosEnd (w : World) (m : Nat) (L : List (Key × Cnt)) (e : Ending) (w' : World) : Prop := e = .returned (.tuple #[]) ∧ MapIs w' m L ∧ w.grownBy w' (some m)

theorem clos_grown {w W W1 W2 : World} {m : Nat} (hb : Below w.heap.size w W) (h1 : Below W.drew.heap.size W.drew W1) (hg : W1.grownBy W2 (some m)) : w.grownBy W2 (some m) := by
  have hb1 : Below W.heap.size W.drew W1 := h1
  refine ⟨hg.os.trans (hb1.os.trans hb.os), hg.tape.trans (hb1.tape.trans hb.tape), hg.output.trans (hb1.output.trans hb.output), ?_, fun i hi hne => ?_⟩
  · have a := hb.size; have b := hb1.size; have c := hg.size; simp at b; omega
  · have a := hb.size
    have b := hb1.size
    simp at b
    rw [hg.block i (by omega) hne, hb1.block i (by omega)]
    exact hb.block i hi
set_option maxRecDepth 100000 in
set_option maxHeartbeats 1600000 in
theorem addclos_any (db ib eb sb m : Nat) (kind : Int) (name : ByteArray) (day b : Int) (L : List (Key × Cnt)) (w : World)
    (h0 : w.cell? ⟨db, 0, none⟩ = some (.int .i64 day)) (h1 : w.cell? ⟨ib, 0, none⟩ = some (.pointer (some ⟨sb, 0, none⟩))) (h2 : w.cell? ⟨eb, 19, none⟩ = some (.int .i64 b)) (h3 : w.cell? ⟨sb, 0, none⟩ = some (.map (some m)))
    (hm : MapIs w m L) (hb : Bnd L) (hb0 : 0 ≤ b ∧ b ≤ 65536) :
    Calls Tryz.prog 49 #[.int .i64 kind, .string name, .pointer (some ⟨db, 0, none⟩), .pointer (some ⟨ib, 0, none⟩), .pointer (some ⟨eb, 0, none⟩)] w (ClosEnd w m (bump L (day, kind, name) b)) := by
  have hgb := getL_bound (k := (day, kind, name)) hb
  obtain ⟨c1, hc1⟩ : ∃ c, c = (getL (day, kind, name) L).1 := ⟨_, rfl⟩
  obtain ⟨c2, hc2⟩ : ∃ c, c = (getL (day, kind, name) L).2 := ⟨_, rfl⟩
  have hbump : bump L (day, kind, name) b = putL (day, kind, name) (c1 + 1, c2 + b) L := by rw [hc1, hc2]; rfl
  rw [hbump]
  rw [← hc1, ← hc2] at hgb
  obtain ⟨W, hW⟩ : ∃ W, W = w.alloc (.cells #[.int .i64 day, .int .i64 kind, .string name] 64) := ⟨_, rfl⟩
  have hbW : Below w.heap.size w W := by rw [hW]; exact (Below.refl _ _).alloc (Nat.le_refl _) _
  have hWs : W.heap.size = w.heap.size + 1 := by rw [hW]; simp
  have hmW := hm.below hbW hm.lt
  have hlk : (Instr.lookup 70 (.map (some m)) (.agg #[.int .i64 day, .int .i64 kind, .string name]) false).run Tryz.prog W.drew = .ok (.agg #[.int .i64 c1, .int .i64 c2]) W.drew := by
    have := MapIs.lookup (w := W.drew) (show MapIs W.drew m L from hmW) (day, kind, name)
    rw [hc1, hc2]; exact this
  have k0 : W.cell? ⟨w.heap.size, 0, none⟩ = some (.int .i64 day) := by rw [hW, cell_of_row _ _ _ _ _ _ (heap_alloc_new w _)]; rfl
  have k1 : W.cell? ⟨w.heap.size, 1, none⟩ = some (.int .i64 kind) := by rw [hW, cell_of_row _ _ _ _ _ _ (heap_alloc_new w _)]; rfl
  have k2 : W.cell? ⟨w.heap.size, 2, none⟩ = some (.string name) := by rw [hW, cell_of_row _ _ _ _ _ _ (heap_alloc_new w _)]; rfl
  have g1 : W.cell? ⟨ib, 0, none⟩ = some (.pointer (some ⟨sb, 0, none⟩)) := (hbW.cell (p := ⟨ib, 0, none⟩) (World.block_lt_of_cell? w _ h1)).trans h1
  have g2 : W.cell? ⟨eb, 19, none⟩ = some (.int .i64 b) := (hbW.cell (p := ⟨eb, 19, none⟩) (World.block_lt_of_cell? w _ h2)).trans h2
  have g3 : W.cell? ⟨sb, 0, none⟩ = some (.map (some m)) := (hbW.cell (p := ⟨sb, 0, none⟩) (World.block_lt_of_cell? w _ h3)).trans h3
  have lt1 : ib < W.heap.size := World.block_lt_of_cell? W _ g1
  have lt2 : eb < W.heap.size := World.block_lt_of_cell? W _ g2
  have lt3 : sb < W.heap.size := World.block_lt_of_cell? W _ g3
  have hne : ∀ x o v, W.cell? ⟨x, o, none⟩ = some v → x ≠ m := fun x o v hx e => by
    subst e
    obtain ⟨es, clock, hh, _⟩ := hmW
    simp [World.cell?, hh] at hx
  have n1 := hne _ _ _ g1
  have n2 := hne _ _ _ g3
  have n3 := hne _ _ _ g2
  have n4 := hne _ _ _ k0
  clear hne
  obtain ⟨hb1, hb2⟩ := hb0
  obtain ⟨e1, e2, e3, e4⟩ := hgb
  have hmW' := Lib.hid hmW
  have hbW' := Lib.hid hbW
  have hm' := Lib.hid hm
  have hWs' := Lib.hid hWs
  clear hmW hbW hm hb hbump hc1 hc2 h1 h2 h3
  go_enter Tryz.func49, Tryz.ntmps49
  go_wp2_with fail
  rw [← hW]
  clear hW h0
  go_region_held3 (fun w' => w'.cell? ⟨ib, 0, none⟩ = some (.pointer (some ⟨sb, 0, none⟩)) ∧ w'.cell? ⟨sb, 0, none⟩ = some (.map (some m)) ∧ w'.cell? ⟨eb, 19, none⟩ = some (.int .i64 b) ∧
      w'.cell? ⟨w.heap.size, 0, none⟩ = some (.int .i64 day) ∧ w'.cell? ⟨w.heap.size, 1, none⟩ = some (.int .i64 kind) ∧ w'.cell? ⟨w.heap.size, 2, none⟩ = some (.string name))
    (refine ⟨?_, ?_, ?_, ?_, ?_, ?_⟩ <;> first | assumption | (simp [*]; done))
    (first | (go_at_call 47; refine (plus_any _ _ _ _ _ ⟨e1, e2⟩ ⟨e3, e4⟩ (by omega) (by omega)).mono ?_; rintro e W1 ⟨rfl, hb1⟩; have j1 : W1.cell? ⟨ib, 0, none⟩ = some (.pointer (some ⟨sb, 0, none⟩)) := (hb1.cell (p := ⟨ib, 0, none⟩) lt1).trans g1; have j2 : W1.cell? ⟨sb, 0, none⟩ = some (.map (some m)) := (hb1.cell (p := ⟨sb, 0, none⟩) lt3).trans g3; have j3 : W1.cell? ⟨eb, 19, none⟩ = some (.int .i64 b) := (hb1.cell (p := ⟨eb, 19, none⟩) lt2).trans g2; have j4 : W1.cell? ⟨w.heap.size, 0, none⟩ = some (.int .i64 day) := (hb1.cell (p := ⟨w.heap.size, 0, none⟩) (by have := hWs'.out; show w.heap.size < W.heap.size; omega)).trans k0; have j5 : W1.cell? ⟨w.heap.size, 1, none⟩ = some (.int .i64 kind) := (hb1.cell (p := ⟨w.heap.size, 1, none⟩) (by have := hWs'.out; show w.heap.size < W.heap.size; omega)).trans k1; have j6 : W1.cell? ⟨w.heap.size, 2, none⟩ = some (.string name) := (hb1.cell (p := ⟨w.heap.size, 2, none⟩) (by have := hWs'.out; show w.heap.size < W.heap.size; omega)).trans k2; have hmW1 : MapIs W1 m L := MapIs.below (w := W.drew) hmW'.out hb1 (show m < W.heap.size from hmW'.out.lt); obtain ⟨W2, hup, hm2, hg2⟩ := hmW1.update (day, kind, name) (c1 + 1, c2 + b); have hup2 : (Instr.mapUpdate 70 (.map (some m)) (.agg #[.int .i64 day, .int .i64 kind, .string name]) (.agg #[.int .i64 (c1 + 1), .int .i64 (c2 + b)])).run Tryz.prog W1 = .ok () W2 := hup; clear hup; have z1 := hg2.cell j1 (by simp; exact n1); have z2 := hg2.cell j2 (by simp; exact n2); have z3 := hg2.cell j3 (by simp; exact n3); have z4 := hg2.cell j4 (by simp; exact n4); have z5 := hg2.cell j5 (by simp; exact n4); have z6 := hg2.cell j6 (by simp; exact n4); have hm2' := Lib.hid hm2; have hg2' := Lib.hid hg2; have hb1' := Lib.hid hb1; clear hm2 hg2 hmW1 hb1))
  go_end0
  exact ⟨rfl, hm2'.out, clos_grown hbW'.out hb1'.out hg2'.out⟩
end Go.Proofs.YtlemadbmlnjhpaaGreatDoor
