/- The contracts of a line's checks and Check (overview). -/
import Derived.Test.YtnniijnfkbkdcaaGreatDoorO2
import Derived.Test.YtnniijnfkbkdcaaGreatDoorOB
import Derived.Deep.RegionHeld3
namespace Go.Proofs.YtnniijnfkbkdcaaGreatDoor
open Go Go.RowKit Go.Proofs
set_option linter.unusedSimpArgs false
set_option linter.unusedVariables false

def errs (n : Int) (nm : ByteArray) (d : Int) (sj : ByteArray) (er b : Int) : List Int := [inErr n 1 2147483646 2, 0, txtErr nm 60, inErr d 0 105190559 13, txtErr sj 200, er, inErr b 0 65536 2]
theorem cells_at {w : World} {k : Nat} {cs : List Value} {t : TypeId} {fz : Nat × Nat} (h : w.heap[k]? = some (.cells cs.toArray t fz)) (j : Nat) (v : Value) (hj : cs[j]? = some v) : w.cell? ⟨k, j, none⟩ = some v := by
  rw [cell_of_row _ _ _ _ _ _ h]; simpa using hj
theorem below_setRow {B g : Nat} {w w' : World} {cs : Array Value} (h : Below B w w') (hg : B ≤ g) : Below B w (w'.setRow g cs) :=
  ⟨h.os, h.tape, h.output, by have := h.size; simp only [World.setRow, Array.size_modify]; exact this, fun i hi => (setRow_other w' g i cs (by omega)).trans (h.block i hi)⟩
theorem cell_setRow_other {w : World} {g k j : Nat} {cs : Array Value} {v : Value} (hk : k ≠ g) (h : w.cell? ⟨k, j, none⟩ = some v) : (w.setRow g cs).cell? ⟨k, j, none⟩ = some v := by
  rw [World.cell?_of_block (setRow_other w g k cs hk)]; exact h
def RowN (w : World) (g n : Nat) (t : TypeId) : Prop := ∃ old : Array Value, w.heap[g]? = some (.cells old t (0, 0)) ∧ old.size = n
theorem RowN.kept {w w' : World} {g n : Nat} {t : TypeId} (h : RowN w g n t) (hb : Below w.heap.size w w') : RowN w' g n t := by
  obtain ⟨o, h1, h2⟩ := h
  exact ⟨o, (hb.block _ (Array.getElem?_eq_some_iff.1 h1).1).trans h1, h2⟩
theorem RowN.set {w : World} {g n : Nat} {t : TypeId} {cs : Array Value} (h : RowN w g n t) (hc : cs.size = n) : RowN (w.setRow g cs) g n t := by
  obtain ⟨o, h1, h2⟩ := h
  exact ⟨cs, setRow_heap w g o cs t _ h1, hc⟩
/-- what the statement of checks keeps while it runs -/
structure ChkAt (w W W' : World) (n : Int) (nm : ByteArray) (d : Int) (sj : ByteArray) (rv : Value) (b : Int) : Prop where
  bel : Below (w.heap.size + 1) W W'
  c0 : W'.cell? ⟨w.heap.size, 0, none⟩ = some (.int .i64 n)
  c1 : W'.cell? ⟨w.heap.size, 33, none⟩ = some (.string nm)
  c2 : W'.cell? ⟨w.heap.size, 34, none⟩ = some (.int .i64 d)
  c3 : W'.cell? ⟨w.heap.size, 35, none⟩ = some (.string sj)
  c4 : W'.cell? ⟨w.heap.size, 36, none⟩ = some rv
  c5 : W'.cell? ⟨w.heap.size, 37, none⟩ = some (.int .i64 b)
  row : RowN W' (w.heap.size + 1) 7 126
theorem ChkAt.drew {w W W' : World} {n : Int} {nm : ByteArray} {d : Int} {sj : ByteArray} {rv : Value} {b : Int} (h : ChkAt w W W' n nm d sj rv b) : ChkAt w W W'.drew n nm d sj rv b := ⟨h.bel.drew, h.c0, h.c1, h.c2, h.c3, h.c4, h.c5, h.row⟩
theorem ChkAt.kept {w W W' W1 : World} {n : Int} {nm : ByteArray} {d : Int} {sj : ByteArray} {rv : Value} {b : Int} (h : ChkAt w W W' n nm d sj rv b) (hb : Below W'.heap.size W' W1) : ChkAt w W W1 n nm d sj rv b := by
  have hl : w.heap.size + 1 < W'.heap.size := by obtain ⟨o, h1, _⟩ := h.row; exact (Array.getElem?_eq_some_iff.1 h1).1
  have key : ∀ j v, W'.cell? ⟨w.heap.size, j, none⟩ = some v → W1.cell? ⟨w.heap.size, j, none⟩ = some v := fun j v hv => (hb.cell (p := ⟨w.heap.size, j, none⟩) (by show w.heap.size < _; omega)).trans hv
  exact ⟨h.bel.trans (hb.mono (by omega)), key _ _ h.c0, key _ _ h.c1, key _ _ h.c2, key _ _ h.c3, key _ _ h.c4, key _ _ h.c5, h.row.kept hb⟩
theorem ChkAt.set {w W W' : World} {n : Int} {nm : ByteArray} {d : Int} {sj : ByteArray} {rv : Value} {b : Int} {cs : Array Value} (h : ChkAt w W W' n nm d sj rv b) (hc : cs.size = 7) : ChkAt w W (W'.setRow (w.heap.size + 1) cs) n nm d sj rv b :=
  ⟨below_setRow h.bel (Nat.le_refl _), cell_setRow_other (by omega) h.c0, cell_setRow_other (by omega) h.c1, cell_setRow_other (by omega) h.c2, cell_setRow_other (by omega) h.c3, cell_setRow_other (by omega) h.c4, cell_setRow_other (by omega) h.c5, h.row.set hc⟩
theorem Tryz.build7 (a0 a2 a3 a4 a5 a6 : Int) (w : World) : (Instr.build 126 #[(0, .int .i64 a0), (1, .int .i64 0), (2, .int .i64 a2), (3, .int .i64 a3), (4, .int .i64 a4), (5, .int .i64 a5), (6, .int .i64 a6)]).run Tryz.prog w = .ok (.agg #[.int .i64 a0, .int .i64 0, .int .i64 a2, .int .i64 a3, .int .i64 a4, .int .i64 a5, .int .i64 a6]) w := by kernel_rfl
set_option maxHeartbeats 3200000 in
set_option maxRecDepth 100000 in
theorem checks_any (n : Int) (i1 i2 i3 i4 i5 i6 i7 i8 i9 i10 i11 i12 i13 i14 i15 i16 i17 i18 i19 i20 i21 i22 i23 i24 i25 i26 i27 i28 i29 i30 i31 i32 : Value) (nm : ByteArray) (d : Int) (sj : ByteArray) (rv : Value) (b er : Int) (w : World) (hnm : nm.size ≤ 9223372036854775807) (hsj : sj.size ≤ 9223372036854775807)
    (hr : ∀ W, Below w.heap.size w W → Calls Tryz.prog 120 #[rv] W fun e w' => e = .returned (.int .i64 er) ∧ Below W.heap.size W w') :
    Calls Tryz.prog 82 #[.agg ((.int .i64 n :: i1 :: i2 :: i3 :: i4 :: i5 :: i6 :: i7 :: i8 :: i9 :: i10 :: i11 :: i12 :: i13 :: i14 :: i15 :: i16 :: i17 :: i18 :: i19 :: i20 :: i21 :: i22 :: i23 :: i24 :: i25 :: i26 :: i27 :: i28 :: i29 :: i30 :: i31 :: i32 :: .string nm :: .int .i64 d :: .string sj :: rv :: .int .i64 b :: [])).toArray] w fun e w' => e = .returned (.agg ((errs n nm d sj er b).map (Value.int .i64)).toArray) ∧ Below w.heap.size w w' := by
  obtain ⟨W, hW⟩ : ∃ W, W = (w.alloc (.cells ((.int .i64 n :: i1 :: i2 :: i3 :: i4 :: i5 :: i6 :: i7 :: i8 :: i9 :: i10 :: i11 :: i12 :: i13 :: i14 :: i15 :: i16 :: i17 :: i18 :: i19 :: i20 :: i21 :: i22 :: i23 :: i24 :: i25 :: i26 :: i27 :: i28 :: i29 :: i30 :: i31 :: i32 :: .string nm :: .int .i64 d :: .string sj :: rv :: .int .i64 b :: [])).toArray 44)).alloc (.cells #[.int .i64 0, .int .i64 0, .int .i64 0, .int .i64 0, .int .i64 0, .int .i64 0, .int .i64 0] 126) := ⟨_, rfl⟩
  have hb0 : Below w.heap.size w W := by rw [hW]; exact ((Below.refl _ w).alloc (Nat.le_refl _) _).alloc (by simp) _
  have hs0 : W.heap.size = w.heap.size + 1 + 1 := by rw [hW]; simp
  have hq : W.heap[w.heap.size]? = some (.cells ((.int .i64 n :: i1 :: i2 :: i3 :: i4 :: i5 :: i6 :: i7 :: i8 :: i9 :: i10 :: i11 :: i12 :: i13 :: i14 :: i15 :: i16 :: i17 :: i18 :: i19 :: i20 :: i21 :: i22 :: i23 :: i24 :: i25 :: i26 :: i27 :: i28 :: i29 :: i30 :: i31 :: i32 :: .string nm :: .int .i64 d :: .string sj :: rv :: .int .i64 b :: [])).toArray 44 (0, 0)) := by rw [hW]; exact heap_alloc2_old _ _ _
  have c0 := cells_at hq 0 _ rfl
  have c1 := cells_at hq 33 _ rfl
  have c2 := cells_at hq 34 _ rfl
  have c3 := cells_at hq 35 _ rfl
  have c4 := cells_at hq 36 _ rfl
  have c5 := cells_at hq 37 _ rfl
  have c6 : RowN W (w.heap.size + 1) 7 126 := ⟨_, by rw [hW]; exact heap_alloc2_new _ _ _, rfl⟩
  have g0 : w.heap.size < W.heap.size := by omega
  have g2 : w.heap.size ≠ w.heap.size + 1 := by omega
  have hb0' := Lib.hid hb0
  have hs0' := Lib.hid hs0
  have hW' := Lib.hid hW
  have hr' := Lib.hid hr
  clear hb0 hs0 hr hq
  go_enter Tryz.func82, Tryz.ntmps82
  go_wp2_with fail
  rw [← hW]
  clear hW
  have hC : ChkAt w W W n nm d sj rv b := ⟨Below.refl _ _, c0, c1, c2, c3, c4, c5, c6⟩
  clear c0 c1 c2 c3 c4 c5 c6 g0 g2
  refine wp_region_noPanic ?_
  have hH := hC.drew
  refine wp_region_held_drew (S := (fun W' => ChkAt w W W' n nm d sj rv b)) (by kernel_rfl) hH (fun _ => ?_)
  refine wpAnyH_take (i := 0) (oi := { dst := some 3, op := Op.fieldAddr 44 (Operand.tmp 1) 0, type := 0, pos := "overview.go:83", after := #[], guard := none }) (v := (.pointer (some ⟨w.heap.size, 0, none⟩))) rfl (by kernel_rfl) (by kernel_rfl) (by kernel_rfl) (fun _ _ _ h => h) (Or.inl ⟨by rfl, fun w hSw => by obtain ⟨_, c0, c1, c2, c3, c4, c5, _⟩ := hSw; go_simp⟩) hH ?_
  try simp only [Act.put, List.setIfInBounds_toArray, List.set_cons_zero, List.set_cons_succ]
  refine wpAnyH_take (i := 1) (oi := { dst := some 4, op := Op.load 3 (Operand.tmp 3), type := 3, pos := "overview.go:83", after := #[{ on := 0, ground := Ground.data }], guard := none }) (v := (.int .i64 n)) rfl (by kernel_rfl) (by kernel_rfl) (by kernel_rfl) (fun _ _ _ h => h) (Or.inl ⟨by rfl, fun w hSw => by obtain ⟨_, c0, c1, c2, c3, c4, c5, _⟩ := hSw; go_simp⟩) hH ?_
  try simp only [Act.put, List.setIfInBounds_toArray, List.set_cons_zero, List.set_cons_succ]
  refine wpAnyH_take (i := 3) (oi := { dst := some 6, op := Op.fieldAddr 44 (Operand.tmp 1) 2, type := 0, pos := "overview.go:83", after := #[], guard := none }) (v := (.pointer (some ⟨w.heap.size, 33, none⟩))) rfl (by kernel_rfl) (by kernel_rfl) (by kernel_rfl) (fun _ _ _ h => h) (Or.inl ⟨by rfl, fun w hSw => by obtain ⟨_, c0, c1, c2, c3, c4, c5, _⟩ := hSw; go_simp⟩) hH ?_
  try simp only [Act.put, List.setIfInBounds_toArray, List.set_cons_zero, List.set_cons_succ]
  refine wpAnyH_take (i := 4) (oi := { dst := some 7, op := Op.load 9 (Operand.tmp 6), type := 9, pos := "overview.go:83", after := #[{ on := 3, ground := Ground.data }], guard := none }) (v := (.string nm)) rfl (by kernel_rfl) (by kernel_rfl) (by kernel_rfl) (fun _ _ _ h => h) (Or.inl ⟨by rfl, fun w hSw => by obtain ⟨_, c0, c1, c2, c3, c4, c5, _⟩ := hSw; go_simp⟩) hH ?_
  try simp only [Act.put, List.setIfInBounds_toArray, List.set_cons_zero, List.set_cons_succ]
  refine wpAnyH_take (i := 6) (oi := { dst := some 9, op := Op.fieldAddr 44 (Operand.tmp 1) 3, type := 0, pos := "overview.go:83", after := #[], guard := none }) (v := (.pointer (some ⟨w.heap.size, 34, none⟩))) rfl (by kernel_rfl) (by kernel_rfl) (by kernel_rfl) (fun _ _ _ h => h) (Or.inl ⟨by rfl, fun w hSw => by obtain ⟨_, c0, c1, c2, c3, c4, c5, _⟩ := hSw; go_simp⟩) hH ?_
  try simp only [Act.put, List.setIfInBounds_toArray, List.set_cons_zero, List.set_cons_succ]
  refine wpAnyH_take (i := 7) (oi := { dst := some 10, op := Op.load 3 (Operand.tmp 9), type := 3, pos := "overview.go:83", after := #[{ on := 6, ground := Ground.data }], guard := none }) (v := (.int .i64 d)) rfl (by kernel_rfl) (by kernel_rfl) (by kernel_rfl) (fun _ _ _ h => h) (Or.inl ⟨by rfl, fun w hSw => by obtain ⟨_, c0, c1, c2, c3, c4, c5, _⟩ := hSw; go_simp⟩) hH ?_
  try simp only [Act.put, List.setIfInBounds_toArray, List.set_cons_zero, List.set_cons_succ]
  refine wpAnyH_take (i := 9) (oi := { dst := some 12, op := Op.fieldAddr 44 (Operand.tmp 1) 4, type := 0, pos := "overview.go:83", after := #[], guard := none }) (v := (.pointer (some ⟨w.heap.size, 35, none⟩))) rfl (by kernel_rfl) (by kernel_rfl) (by kernel_rfl) (fun _ _ _ h => h) (Or.inl ⟨by rfl, fun w hSw => by obtain ⟨_, c0, c1, c2, c3, c4, c5, _⟩ := hSw; go_simp⟩) hH ?_
  try simp only [Act.put, List.setIfInBounds_toArray, List.set_cons_zero, List.set_cons_succ]
  refine wpAnyH_take (i := 10) (oi := { dst := some 13, op := Op.load 9 (Operand.tmp 12), type := 9, pos := "overview.go:83", after := #[{ on := 9, ground := Ground.data }], guard := none }) (v := (.string sj)) rfl (by kernel_rfl) (by kernel_rfl) (by kernel_rfl) (fun _ _ _ h => h) (Or.inl ⟨by rfl, fun w hSw => by obtain ⟨_, c0, c1, c2, c3, c4, c5, _⟩ := hSw; go_simp⟩) hH ?_
  try simp only [Act.put, List.setIfInBounds_toArray, List.set_cons_zero, List.set_cons_succ]
  refine wpAnyH_take (i := 12) (oi := { dst := some 15, op := Op.fieldAddr 44 (Operand.tmp 1) 5, type := 0, pos := "overview.go:83", after := #[], guard := none }) (v := (.pointer (some ⟨w.heap.size, 36, none⟩))) rfl (by kernel_rfl) (by kernel_rfl) (by kernel_rfl) (fun _ _ _ h => h) (Or.inl ⟨by rfl, fun w hSw => by obtain ⟨_, c0, c1, c2, c3, c4, c5, _⟩ := hSw; go_simp⟩) hH ?_
  try simp only [Act.put, List.setIfInBounds_toArray, List.set_cons_zero, List.set_cons_succ]
  refine wpAnyH_take (i := 13) (oi := { dst := some 16, op := Op.load 32 (Operand.tmp 15), type := 32, pos := "overview.go:83", after := #[{ on := 12, ground := Ground.data }], guard := none }) (v := rv) rfl (by kernel_rfl) (by kernel_rfl) (by kernel_rfl) (fun _ _ _ h => h) (Or.inl ⟨by rfl, fun w hSw => by obtain ⟨_, c0, c1, c2, c3, c4, c5, _⟩ := hSw; go_simp⟩) hH ?_
  try simp only [Act.put, List.setIfInBounds_toArray, List.set_cons_zero, List.set_cons_succ]
  refine wpAnyH_take (i := 15) (oi := { dst := some 18, op := Op.fieldAddr 44 (Operand.tmp 1) 6, type := 0, pos := "overview.go:83", after := #[], guard := none }) (v := (.pointer (some ⟨w.heap.size, 37, none⟩))) rfl (by kernel_rfl) (by kernel_rfl) (by kernel_rfl) (fun _ _ _ h => h) (Or.inl ⟨by rfl, fun w hSw => by obtain ⟨_, c0, c1, c2, c3, c4, c5, _⟩ := hSw; go_simp⟩) hH ?_
  try simp only [Act.put, List.setIfInBounds_toArray, List.set_cons_zero, List.set_cons_succ]
  refine wpAnyH_take (i := 16) (oi := { dst := some 19, op := Op.load 3 (Operand.tmp 18), type := 3, pos := "overview.go:83", after := #[{ on := 15, ground := Ground.data }], guard := none }) (v := (.int .i64 b)) rfl (by kernel_rfl) (by kernel_rfl) (by kernel_rfl) (fun _ _ _ h => h) (Or.inl ⟨by rfl, fun w hSw => by obtain ⟨_, c0, c1, c2, c3, c4, c5, _⟩ := hSw; go_simp⟩) hH ?_
  try simp only [Act.put, List.setIfInBounds_toArray, List.set_cons_zero, List.set_cons_succ]
  refine wpAnyH_ready (rs := [2]) (by kernel_rfl) (by simp) ?_
  refine AllReadyH.cons (o := { dst := some 5, op := Op.call { callee := Callee.value (Operand.func 118), args := #[Operand.tmp 4, Operand.const (Value.int IntKind.i64 1), Operand.const (Value.int IntKind.i64 2147483646), Operand.const (Value.int IntKind.i64 2)], argTypes := #[3, 3, 3, 47] }, type := 47, pos := "overview.go:84", after := #[{ on := 1, ground := Ground.data }], guard := none }) rfl (fun K hK => ?_) AllReadyH.nil
  go_simp
  go_at_call 118
  refine (within_any _ _ _ _ _).mono ?_
  rintro e W1 ⟨rfl, rfl⟩
  refine hK.out _ _ hH (fun _ => ?_)
  clear hK
  try simp only [Act.put, List.setIfInBounds_toArray, List.set_cons_zero, List.set_cons_succ]
  refine wpAnyH_ready (rs := [5]) (by kernel_rfl) (by simp) ?_
  refine AllReadyH.cons (o := { dst := some 8, op := Op.call { callee := Callee.value (Operand.func 119), args := #[Operand.tmp 7, Operand.const (Value.int IntKind.i64 60)], argTypes := #[9, 3] }, type := 47, pos := "overview.go:84", after := #[{ on := 4, ground := Ground.data }, { on := 2, ground := Ground.chain }], guard := none }) rfl (fun K hK => ?_) AllReadyH.nil
  go_simp
  go_at_call 119
  refine (text_any _ _ _ hnm).mono ?_
  rintro e W1 ⟨rfl, rfl⟩
  refine hK.out _ _ hH (fun _ => ?_)
  clear hK
  try simp only [Act.put, List.setIfInBounds_toArray, List.set_cons_zero, List.set_cons_succ]
  refine wpAnyH_ready (rs := [8]) (by kernel_rfl) (by simp) ?_
  refine AllReadyH.cons (o := { dst := some 11, op := Op.call { callee := Callee.value (Operand.func 118), args := #[Operand.tmp 10, Operand.const (Value.int IntKind.i64 0), Operand.const (Value.int IntKind.i64 105190559), Operand.const (Value.int IntKind.i64 13)], argTypes := #[3, 3, 3, 47] }, type := 47, pos := "overview.go:84", after := #[{ on := 7, ground := Ground.data }, { on := 5, ground := Ground.chain }], guard := none }) rfl (fun K hK => ?_) AllReadyH.nil
  go_simp
  go_at_call 118
  refine (within_any _ _ _ _ _).mono ?_
  rintro e W1 ⟨rfl, rfl⟩
  refine hK.out _ _ hH (fun _ => ?_)
  clear hK
  try simp only [Act.put, List.setIfInBounds_toArray, List.set_cons_zero, List.set_cons_succ]
  refine wpAnyH_ready (rs := [11]) (by kernel_rfl) (by simp) ?_
  refine AllReadyH.cons (o := { dst := some 14, op := Op.call { callee := Callee.value (Operand.func 119), args := #[Operand.tmp 13, Operand.const (Value.int IntKind.i64 200)], argTypes := #[9, 3] }, type := 47, pos := "overview.go:85", after := #[{ on := 10, ground := Ground.data }, { on := 8, ground := Ground.chain }], guard := none }) rfl (fun K hK => ?_) AllReadyH.nil
  go_simp
  go_at_call 119
  refine (text_any _ _ _ hsj).mono ?_
  rintro e W1 ⟨rfl, rfl⟩
  refine hK.out _ _ hH (fun _ => ?_)
  clear hK
  try simp only [Act.put, List.setIfInBounds_toArray, List.set_cons_zero, List.set_cons_succ]
  refine wpAnyH_ready (rs := [14]) (by kernel_rfl) (by simp) ?_
  refine AllReadyH.cons (o := { dst := some 17, op := Op.call { callee := Callee.value (Operand.func 120), args := #[Operand.tmp 16], argTypes := #[32] }, type := 47, pos := "overview.go:85", after := #[{ on := 13, ground := Ground.data }, { on := 11, ground := Ground.chain }], guard := none }) rfl (fun K hK => ?_) AllReadyH.nil
  go_simp
  go_at_call 120
  refine (hr'.out _ (hb0'.out.trans (hH.bel.mono (by omega)))).mono ?_
  rintro e W1 ⟨rfl, hb1⟩
  have hH1 := hH.kept hb1
  refine hK.out _ _ hH1 (fun _ => ?_)
  clear hK hb1
  try simp only [Act.put, List.setIfInBounds_toArray, List.set_cons_zero, List.set_cons_succ]
  refine wpAnyH_ready (rs := [17]) (by kernel_rfl) (by simp) ?_
  refine AllReadyH.cons (o := { dst := some 20, op := Op.call { callee := Callee.value (Operand.func 118), args := #[Operand.tmp 19, Operand.const (Value.int IntKind.i64 0), Operand.const (Value.int IntKind.i64 65536), Operand.const (Value.int IntKind.i64 2)], argTypes := #[3, 3, 3, 47] }, type := 47, pos := "overview.go:85", after := #[{ on := 16, ground := Ground.data }, { on := 14, ground := Ground.chain }], guard := none }) rfl (fun K hK => ?_) AllReadyH.nil
  go_simp
  go_at_call 118
  refine (within_any _ _ _ _ _).mono ?_
  rintro e W1 ⟨rfl, rfl⟩
  refine hK.out _ _ hH1 (fun _ => ?_)
  clear hK
  try simp only [Act.put, List.setIfInBounds_toArray, List.set_cons_zero, List.set_cons_succ]
  refine wpAnyH_take (i := 18) (oi := { dst := some 21, op := Op.build 126 #[(0, Operand.tmp 5), (1, Operand.const (Value.int IntKind.i64 0)), (2, Operand.tmp 8), (3, Operand.tmp 11), (4, Operand.tmp 14), (5, Operand.tmp 17), (6, Operand.tmp 20)], type := 126, pos := "overview.go:83", after := #[{ on := 2, ground := Ground.data }, { on := 5, ground := Ground.data }, { on := 8, ground := Ground.data }, { on := 11, ground := Ground.data }, { on := 14, ground := Ground.data }, { on := 17, ground := Ground.data }], guard := none }) (v := (.agg ((errs n nm d sj er b).map (Value.int .i64)).toArray)) rfl (by kernel_rfl) (by kernel_rfl) (by kernel_rfl) (fun _ _ _ h => h) (Or.inl ⟨by rfl, fun w hSw => by have hb := Tryz.build7 (inErr n 1 2147483646 2) (txtErr nm 60) (inErr d 0 105190559 13) (txtErr sj 200) er (inErr b 0 65536 2) w; clear hSw; go_simp; rfl⟩) hH1 ?_
  try simp only [Act.put, List.setIfInBounds_toArray, List.set_cons_zero, List.set_cons_succ]
  refine wpAnyH_ready (rs := [19]) (by kernel_rfl) (by simp) ?_
  refine AllReadyH.cons (o := { dst := none, op := Op.store 126 (Operand.tmp 2) (Operand.tmp 21), type := 0, pos := "overview.go:83", after := #[{ on := 18, ground := Ground.data }, { on := 17, ground := Ground.chain }, { on := 0, ground := Ground.phase }, { on := 1, ground := Ground.phase }, { on := 2, ground := Ground.phase }, { on := 3, ground := Ground.phase }, { on := 4, ground := Ground.phase }, { on := 5, ground := Ground.phase }, { on := 6, ground := Ground.phase }, { on := 7, ground := Ground.phase }, { on := 8, ground := Ground.phase }, { on := 9, ground := Ground.phase }, { on := 10, ground := Ground.phase }, { on := 11, ground := Ground.phase }, { on := 12, ground := Ground.phase }, { on := 13, ground := Ground.phase }, { on := 14, ground := Ground.phase }, { on := 15, ground := Ground.phase }, { on := 16, ground := Ground.phase }, { on := 17, ground := Ground.phase }, { on := 18, ground := Ground.phase }], guard := none }) rfl (fun K hK => ?_) AllReadyH.nil
  rw [if_pos (by rfl)]
  obtain ⟨old, ho1, ho2⟩ := hH1.row
  refine wp_store_row 126 _ _ rfl (w.heap.size + 1) _ rfl rfl 126 old ho1 (by kernel_rfl) ho2 (all_oneCell_toArray fun v hv => by obtain ⟨x, _, rfl⟩ := List.mem_map.1 hv; rfl) ?_
  refine hK.out _ _ (hH1.set rfl) (fun _ => ?_)
  clear hK
  try simp only [Act.put, List.setIfInBounds_toArray, List.set_cons_zero, List.set_cons_succ]
  refine wpAnyH_done (by kernel_rfl) ?_ _
  refine NoPanic.normal ?_
  have hfin := setRow_heap _ _ old ((errs n nm d sj er b).map (Value.int .i64)).toArray _ _ ho1
  have hb9 := hb0'.out.trans ((hH1.set (cs := ((errs n nm d sj er b).map (Value.int .i64)).toArray) rfl).bel.mono (by omega))
  have hfin' := Lib.hid hfin
  have hb9' := Lib.hid hb9
  obtain ⟨W2, hW2⟩ : ∃ W2, W2 = W1.setRow (w.heap.size + 1) ((errs n nm d sj er b).map (Value.int .i64)).toArray := ⟨_, rfl⟩
  rw [← hW2] at hfin' hb9' ⊢
  clear hfin hb9 hC hH hH1 ho1 ho2 hW2
  go_wp2_with fail
  exact bodyPost_ret (v := .agg ((errs n nm d sj er b).map (Value.int .i64)).toArray) (results_cell_row Tryz.results82 _ _ (w.heap.size + 1) _ _ _ _ rfl hfin'.out Tryz.underlying126 rfl (by kernel_rfl)) rfl ⟨rfl, hb9'.out⟩
end Go.Proofs.YtnniijnfkbkdcaaGreatDoor
