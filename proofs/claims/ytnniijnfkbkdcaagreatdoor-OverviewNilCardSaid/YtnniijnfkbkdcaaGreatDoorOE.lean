/- The statement's helpers (small, Range of a nil index). -/
import Derived.Test.YtnniijnfkbkdcaaGreatDoorOD
namespace Go.Proofs.YtnniijnfkbkdcaaGreatDoor
open Go Go.RowKit Go.Proofs
set_option linter.unusedSimpArgs false
set_option linter.unusedVariables false

set_option maxHeartbeats 1600000 in
set_option maxRecDepth 100000 in
theorem small_any (g : ByteArray) (n : Int) (i1 i2 i3 i4 i5 i6 i7 i8 i9 i10 i11 i12 i13 i14 i15 i16 i17 i18 i19 i20 i21 i22 i23 i24 i25 i26 i27 i28 i29 i30 i31 i32 : Value) (nm : ByteArray) (d : Int) (sj : ByteArray) (A : Option Addr) (r c : Nat) (b : Int) (w : World) (rv : Value) (hrv : rv = .slice A r c) :
    Calls Tryz.prog 25 #[.agg ((.string g :: .int .i64 n :: i1 :: i2 :: i3 :: i4 :: i5 :: i6 :: i7 :: i8 :: i9 :: i10 :: i11 :: i12 :: i13 :: i14 :: i15 :: i16 :: i17 :: i18 :: i19 :: i20 :: i21 :: i22 :: i23 :: i24 :: i25 :: i26 :: i27 :: i28 :: i29 :: i30 :: i31 :: i32 :: .string nm :: .int .i64 d :: .string sj :: rv :: .int .i64 b :: [])).toArray] w fun e w' => (∃ x, e = .returned (.bool x) ∧ (x = true → r ≤ 30)) ∧ Below w.heap.size w w' := by
  subst hrv
  by_cases hr : r ≤ 30
  · have hd : decide ((r : Int) ≤ 30) = true := decide_eq_true (by omega)
    go_enter Tryz.func25, Tryz.ntmps25
    go_wp2_with fail
    go_ret
    exact ⟨⟨_, rfl, fun _ => hr⟩, (Below.refl _ w).alloc (Nat.le_refl _) _⟩
  · have hd : decide ((r : Int) ≤ 30) = false := decide_eq_false (by omega)
    go_enter Tryz.func25, Tryz.ntmps25
    go_wp2_with fail
    go_ret
    exact ⟨⟨_, rfl, fun h => by first | cases h | simp at h⟩, (Below.refl _ w).alloc (Nat.le_refl _) _⟩
set_option maxHeartbeats 1600000 in
set_option maxRecDepth 100000 in
theorem range_nil (g : ByteArray) (lo hi : Int) (w : World) :
    Calls Tryz.prog 20 #[.pointer none, .string g, .int .i64 lo, .int .i64 hi] w fun e w' => e = .returned (.func (.func 54) #[] #[.pointer (some ⟨w.heap.size, 0, none⟩), .pointer (some ⟨w.heap.size + 1, 0, none⟩), .pointer (some ⟨w.heap.size + 2, 0, none⟩), .pointer (some ⟨w.heap.size + 3, 0, none⟩)]) ∧ w'.cell? ⟨w.heap.size, 0, none⟩ = some (.pointer none) ∧ Below w.heap.size w w' ∧ w'.heap.size = w.heap.size + 4 := by
  go_enter Tryz.func20, Tryz.ntmps20
  go_wp2_with fail
  go_ret
  refine ⟨rfl, ?_, ?_, by simp⟩
  · have h0 : (w.alloc (.cells #[.pointer none] 25)).cell? ⟨w.heap.size, 0, none⟩ = some (.pointer none) := by rw [cell_of_row _ _ _ _ _ _ (heap_alloc_new w _)]; rfl
    have hb : Below (w.heap.size + 1) (w.alloc (.cells #[.pointer none] 25)) ((((w.alloc (.cells #[.pointer none] 25)).alloc (.cells #[.string g] 9)).alloc (.cells #[.int .i64 lo] 3)).alloc (.cells #[.int .i64 hi] 3)) := (((Below.refl _ _).alloc (by simp) _).alloc (by simp) _).alloc (by simp) _
    exact (hb.cell (p := ⟨w.heap.size, 0, none⟩) (Nat.lt_succ_self _)).trans h0
  · exact ((((Below.refl _ w).alloc (Nat.le_refl _) _).alloc (by simp) _).alloc (by simp; omega) _).alloc (by simp; omega) _
set_option maxHeartbeats 1600000 in
set_option maxRecDepth 100000 in
theorem range1_nil (y p0 p1 p2 : Value) (p : Nat) (w : World) (h : w.cell? ⟨p, 0, none⟩ = some (.pointer none)) :
    Calls Tryz.prog 54 #[y, .pointer (some ⟨p, 0, none⟩), p0, p1, p2] w fun e w' => e = .returned (.tuple #[]) ∧ w = w' := by
  go_enter Tryz.func54, Tryz.ntmps54
  go_wp2_with fail
  exact bodyPost_ret (results_none rfl _ _ _) rfl ⟨rfl, rfl⟩
end Go.Proofs.YtnniijnfkbkdcaaGreatDoor
