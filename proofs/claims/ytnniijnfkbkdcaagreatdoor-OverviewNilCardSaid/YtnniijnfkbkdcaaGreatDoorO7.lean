/- An index in memory; New; what a search tells in a group without lines. -/
import Derived.Test.YtnniijnfkbkdcaaGreatDoorO6
namespace Go.Proofs.YtnniijnfkbkdcaaGreatDoor
open Go Go.RowKit Go.Proofs
set_option linter.unusedSimpArgs false
set_option linter.unusedVariables false

abbrev GL := List (ByteArray × Value)
/-- an index at block sb, its map at block m -/
def IdxAt (w : World) (sb m : Nat) (L : GL) (n : Int) : Prop := w.heap[sb]? = some (.cells #[.map (some m), .int .i64 n] 91 (0, 0)) ∧ MapIs w m L
theorem IdxAt.cell0 {w : World} {sb m : Nat} {L : GL} {n : Int} (h : IdxAt w sb m L n) : w.cell? ⟨sb, 0, none⟩ = some (.map (some m)) := by rw [cell_of_row _ _ _ _ _ _ h.1]; rfl
theorem IdxAt.cell1 {w : World} {sb m : Nat} {L : GL} {n : Int} (h : IdxAt w sb m L n) : w.cell? ⟨sb, 1, none⟩ = some (.int .i64 n) := by rw [cell_of_row _ _ _ _ _ _ h.1]; rfl
theorem IdxAt.lt {w : World} {sb m : Nat} {L : GL} {n : Int} (h : IdxAt w sb m L n) : sb < w.heap.size ∧ m < w.heap.size ∧ sb ≠ m := by
  refine ⟨(Array.getElem?_eq_some_iff.1 h.1).1, h.2.lt, fun e => ?_⟩
  subst e
  obtain ⟨es, clock, h1, _⟩ := h.2
  rw [h.1] at h1; cases h1
theorem IdxAt.below {w w' : World} {sb m : Nat} {L : GL} {n : Int} (h : IdxAt w sb m L n) (hb : Below w.heap.size w w') : IdxAt w' sb m L n :=
  ⟨(hb.block sb h.lt.1).trans h.1, h.2.below hb h.lt.2.1⟩
theorem new_any (w : World) : Calls Tryz.prog 15 #[] w fun e w' => e = .returned (.pointer (some ⟨w.heap.size + 1, 0, none⟩)) ∧ IdxAt w' (w.heap.size + 1) w.heap.size [] 0 ∧ Below w.heap.size w w' := by
  have hmm := @run_makeMap Tryz.prog
  go_enter Tryz.func15, Tryz.ntmps15
  go_wp2_with fail
  go_ret
  refine ⟨rfl, ⟨?_, ?_⟩, ((Below.refl _ w).alloc (Nat.le_refl _) _).alloc (by simp) _⟩
  · exact heap_alloc2_new _ _ _
  · exact (MapIs.made w).block (heap_alloc_old _ _ (by simp))

theorem Tryz.eqnil_lines (w : World) : (binOp .eql 94 (.slice none 0 0) (.slice none 0 0)).run Tryz.prog w = .ok (.bool true) w := by kernel_rfl
theorem Tryz.eqnil_ids (w : World) : (binOp .eql 32 (.slice none 0 0) (.slice none 0 0)).run Tryz.prog w = .ok (.bool true) w := by kernel_rfl
theorem bs_none (t : Int) (f : Value) (w : World) :
    Calls Tryz.prog 98 #[.slice none 0 0, .int .i64 t, f] w fun e w' => e = .returned (.tuple #[.int .i64 0, .bool false]) ∧ w = w' := by
  go_enter Tryz.func98, Tryz.ntmps98
  go_wp2_with fail
  refine wp_loop_once ?_
  go_wp2_with fail
  go_ret2
  exact ⟨rfl, rfl⟩
theorem idx_none (f : Value) (w : World) :
    Calls Tryz.prog 71 #[.slice none 0 0, f] w fun e w' => e = .returned (.int .i64 (-1)) ∧ w = w' := by
  go_enter Tryz.func71, Tryz.ntmps71
  go_wp2_with fail
  refine wp_loop_once ?_
  go_wp2_with fail
  go_ret
  exact ⟨rfl, rfl⟩
set_option maxRecDepth 100000 in
theorem clone_lines_none (w : World) :
    Calls Tryz.prog 60 #[.slice none 0 0] w fun e w' => e = .returned (.slice none 0 0) ∧ w = w' := by
  have he := Tryz.eqnil_lines w
  go_enter Tryz.func60, Tryz.ntmps60
  go_wp2_with fail
  go_ret
  exact ⟨rfl, rfl⟩
set_option maxRecDepth 100000 in
theorem clone_ids_none (w : World) :
    Calls Tryz.prog 97 #[.slice none 0 0] w fun e w' => e = .returned (.slice none 0 0) ∧ w = w' := by
  have he := Tryz.eqnil_ids w
  go_enter Tryz.func97, Tryz.ntmps97
  go_wp2_with fail
  go_ret
  exact ⟨rfl, rfl⟩
set_option maxHeartbeats 800000 in
theorem search_none (sb m : Nat) (L : GL) (c : Int) (g : ByteArray) (n : Int) (w : World) (h : IdxAt w sb m L c) (hg : getL g L = .slice none 0 0) :
    Calls Tryz.prog 56 #[.pointer (some ⟨sb, 0, none⟩), .string g, .int .i64 n] w fun e w' => e = .returned (.tuple #[.int .i64 0, .bool false]) ∧ w = w' := by
  have hc := h.cell0
  have hl := h.2.lookup g
  rw [hg] at hl
  go_enter Tryz.func56, Tryz.ntmps56
  go_wp2_with (go_at_call 98; refine (bs_none n _ _).mono ?_; rintro e w' ⟨rfl, rfl⟩)
  go_ret2
  exact ⟨rfl, rfl⟩
end Go.Proofs.YtnniijnfkbkdcaaGreatDoor
