/- Find in a group without lines; the copy of a line without references; Insert into nothing; Len. -/
import Derived.Test.YtnniijnfkbkdcaaGreatDoorO7
import Derived.Laws.ResultCell
namespace Go.Proofs.YtnniijnfkbkdcaaGreatDoor
open Go Go.RowKit Go.Proofs
set_option linter.unusedSimpArgs false
set_option linter.unusedVariables false

/-- the zero line -/
def zl : List Value := .int .i64 0 :: .int .u8 0 :: .int .u8 0 :: .int .u8 0 :: .int .u8 0 :: .int .u8 0 :: .int .u8 0 :: .int .u8 0 :: .int .u8 0 :: .int .u8 0 :: .int .u8 0 :: .int .u8 0 :: .int .u8 0 :: .int .u8 0 :: .int .u8 0 :: .int .u8 0 :: .int .u8 0 :: .int .u8 0 :: .int .u8 0 :: .int .u8 0 :: .int .u8 0 :: .int .u8 0 :: .int .u8 0 :: .int .u8 0 :: .int .u8 0 :: .int .u8 0 :: .int .u8 0 :: .int .u8 0 :: .int .u8 0 :: .int .u8 0 :: .int .u8 0 :: .int .u8 0 :: .int .u8 0 :: .string ⟨#[]⟩ :: .int .i64 0 :: .string ⟨#[]⟩ :: .slice none 0 0 :: .int .i64 0 :: []
theorem Tryz.build_zl (w : World) : (Instr.build 44 #[]).run Tryz.prog w = .ok (.agg zl.toArray) w := by kernel_rfl
theorem Tryz.zero_zl (w : World) : (zeroValue 44).run Tryz.prog w = .ok (.agg zl.toArray) w := by kernel_rfl
theorem zl_one : zl.toArray.all (·.oneCell') = true := all_oneCell_toArray (cs := zl) (List.all_eq_true.1 (by rfl))
theorem results_row_tmp {P : Program} {fn : Func} {p u : Tmp} {ty : TypeId} (h : fn.results = #[.cell p ty, .tmp u]) (tmps : Array Value) (w : World) (g : Nat) (t : TypeId) (cs : Array Value) (fr : Nat × Nat) (d : TypeDesc)
    (hp : tmps.getD p undef = .pointer (some ⟨g, 0, none⟩)) (hg : w.heap[g]? = some (.cells cs t fr))
    (hu : P.underlying ty = some d) (hd : (match d with | .struct _ | .array _ _ => true | _ => false) = true) (hi : (P.info? ty).map (·.size) = some cs.size) :
    (results fn tmps).run P w = .ok (.tuple #[.agg cs, tmps.getD u undef]) w := by
  rw [results_cell_tmp h, hp]
  simp [asAddr, Result.andThen, Sem.run_pure, run_loadVar_row w g t ty cs fr d hg hu hd hi]
set_option maxHeartbeats 1600000 in
set_option maxRecDepth 100000 in
theorem len_at (sb m : Nat) (L : GL) (c : Int) (g : ByteArray) (A : Option Addr) (n k : Nat) (w : World) (h : IdxAt w sb m L c) (hg : getL g L = .slice A n k) :
    Calls Tryz.prog 42 #[.pointer (some ⟨sb, 0, none⟩), .string g] w fun e w' => e = .returned (.int .i64 n) ∧ w = w' := by
  have hc := h.cell0
  have hl := h.2.lookup g
  rw [hg] at hl
  go_enter Tryz.func42, Tryz.ntmps42
  go_wp2_with fail
  go_ret
  exact ⟨rfl, rfl⟩
set_option maxHeartbeats 1600000 in
set_option maxRecDepth 100000 in
theorem len_nil (g : ByteArray) (w : World) :
    Calls Tryz.prog 42 #[.pointer none, .string g] w fun e w' => e = .returned (.int .i64 0) ∧ w = w' := by
  go_enter Tryz.func42, Tryz.ntmps42
  go_wp2_with fail
  go_ret
  exact ⟨rfl, rfl⟩
set_option maxHeartbeats 1600000 in
set_option maxRecDepth 100000 in
theorem find_nil (g : ByteArray) (i1 i2 i3 i4 i5 i6 i7 i8 i9 i10 i11 i12 i13 i14 i15 i16 i17 i18 i19 i20 i21 i22 i23 i24 i25 i26 i27 i28 i29 i30 i31 i32 : Value) (w : World) :
    Calls Tryz.prog 35 #[.pointer none, .string g, .agg (i1 :: i2 :: i3 :: i4 :: i5 :: i6 :: i7 :: i8 :: i9 :: i10 :: i11 :: i12 :: i13 :: i14 :: i15 :: i16 :: i17 :: i18 :: i19 :: i20 :: i21 :: i22 :: i23 :: i24 :: i25 :: i26 :: i27 :: i28 :: i29 :: i30 :: i31 :: i32 :: []).toArray] w fun e w' => e = .returned (.tuple #[.agg zl.toArray, .bool false]) ∧ Below w.heap.size w w' := by
  obtain ⟨W, hW⟩ : ∃ W, W = (w.alloc (.cells (i1 :: i2 :: i3 :: i4 :: i5 :: i6 :: i7 :: i8 :: i9 :: i10 :: i11 :: i12 :: i13 :: i14 :: i15 :: i16 :: i17 :: i18 :: i19 :: i20 :: i21 :: i22 :: i23 :: i24 :: i25 :: i26 :: i27 :: i28 :: i29 :: i30 :: i31 :: i32 :: []).toArray 31)).alloc (.cells zl.toArray 44) := ⟨_, rfl⟩
  go_enter Tryz.func35, Tryz.ntmps35
  have hbz := Tryz.build_zl
  have hzz := Tryz.zero_zl
  go_wp2_with (refine wpList_store_row rfl 44 _ _ rfl (w.heap.size + 1) zl.toArray rfl rfl 44 zl.toArray (heap_alloc2_new _ _ _) (by kernel_rfl) rfl zl_one ?_)
  rw [← hW]
  have hb : Below w.heap.size w W := by rw [hW]; exact ((Below.refl _ w).alloc (Nat.le_refl _) _).alloc (by simp) _
  have hr : (W.setRow (w.heap.size + 1) zl.toArray).heap[w.heap.size + 1]? = some (.cells zl.toArray 44 (0, 0)) := setRow_heap _ _ _ _ _ _ (by rw [hW]; exact heap_alloc2_new _ _ _)
  exact bodyPost_ret (v := .tuple #[.agg zl.toArray, .bool false]) (results_row_tmp Tryz.results35 _ _ (w.heap.size + 1) _ _ _ _ rfl hr Tryz.underlying44 rfl (by kernel_rfl)) rfl ⟨rfl, below_setRow hb (by omega)⟩
set_option maxHeartbeats 1600000 in
set_option maxRecDepth 100000 in
theorem find_none (sb m : Nat) (L : GL) (c : Int) (g : ByteArray) (i1 i2 i3 i4 i5 i6 i7 i8 i9 i10 i11 i12 i13 i14 i15 i16 i17 i18 i19 i20 i21 i22 i23 i24 i25 i26 i27 i28 i29 i30 i31 i32 : Value) (w : World) (h : IdxAt w sb m L c) (hg : getL g L = .slice none 0 0) :
    Calls Tryz.prog 35 #[.pointer (some ⟨sb, 0, none⟩), .string g, .agg (i1 :: i2 :: i3 :: i4 :: i5 :: i6 :: i7 :: i8 :: i9 :: i10 :: i11 :: i12 :: i13 :: i14 :: i15 :: i16 :: i17 :: i18 :: i19 :: i20 :: i21 :: i22 :: i23 :: i24 :: i25 :: i26 :: i27 :: i28 :: i29 :: i30 :: i31 :: i32 :: []).toArray] w fun e w' => e = .returned (.tuple #[.agg zl.toArray, .bool false]) ∧ Below w.heap.size w w' := by
  obtain ⟨W, hW⟩ : ∃ W, W = (w.alloc (.cells (i1 :: i2 :: i3 :: i4 :: i5 :: i6 :: i7 :: i8 :: i9 :: i10 :: i11 :: i12 :: i13 :: i14 :: i15 :: i16 :: i17 :: i18 :: i19 :: i20 :: i21 :: i22 :: i23 :: i24 :: i25 :: i26 :: i27 :: i28 :: i29 :: i30 :: i31 :: i32 :: []).toArray 31)).alloc (.cells zl.toArray 44) := ⟨_, rfl⟩
  have hb : Below w.heap.size w W := by rw [hW]; exact ((Below.refl _ w).alloc (Nat.le_refl _) _).alloc (by simp) _
  have hW2 : W.heap[w.heap.size + 1]? = some (.cells zl.toArray 44 (0, 0)) := by rw [hW]; exact heap_alloc2_new _ _ _
  have hc := (h.below hb).cell0
  have hl := (h.below hb).2.lookup g
  rw [hg] at hl
  rw [hW] at hc hl
  have hb' := Lib.hid hb
  have hW2' := Lib.hid hW2
  have hW' := Lib.hid hW
  clear hb hW2 hW h
  go_enter Tryz.func35, Tryz.ntmps35
  have hbz := Tryz.build_zl
  have hzz := Tryz.zero_zl
  go_wp2_with (first
    | (go_at_call 71; refine (idx_none _ _).mono ?_; rintro e w' ⟨rfl, rfl⟩)
    | (refine wpList_store_row rfl 44 _ _ rfl (w.heap.size + 1) zl.toArray rfl rfl 44 zl.toArray (heap_alloc2_new _ _ _) (by kernel_rfl) rfl zl_one ?_))
  rw [← hW'.out]
  have hr : (W.setRow (w.heap.size + 1) zl.toArray).heap[w.heap.size + 1]? = some (.cells zl.toArray 44 (0, 0)) := setRow_heap _ _ _ _ _ _ hW2'.out
  exact bodyPost_ret (v := .tuple #[.agg zl.toArray, .bool false]) (results_row_tmp Tryz.results35 _ _ (w.heap.size + 1) _ _ _ _ rfl hr Tryz.underlying44 rfl (by kernel_rfl)) rfl ⟨rfl, below_setRow hb'.out (by omega)⟩
theorem line_one (n : Int) (i1 i2 i3 i4 i5 i6 i7 i8 i9 i10 i11 i12 i13 i14 i15 i16 i17 i18 i19 i20 i21 i22 i23 i24 i25 i26 i27 i28 i29 i30 i31 i32 : Value) (nm : ByteArray) (d : Int) (sj : ByteArray) (rv : Value) (b : Int) (hone : ∀ u ∈ i1 :: i2 :: i3 :: i4 :: i5 :: i6 :: i7 :: i8 :: i9 :: i10 :: i11 :: i12 :: i13 :: i14 :: i15 :: i16 :: i17 :: i18 :: i19 :: i20 :: i21 :: i22 :: i23 :: i24 :: i25 :: i26 :: i27 :: i28 :: i29 :: i30 :: i31 :: i32 :: [], u.oneCell' = true) (hrv : rv.oneCell' = true) : ∀ u ∈ (.int .i64 n :: i1 :: i2 :: i3 :: i4 :: i5 :: i6 :: i7 :: i8 :: i9 :: i10 :: i11 :: i12 :: i13 :: i14 :: i15 :: i16 :: i17 :: i18 :: i19 :: i20 :: i21 :: i22 :: i23 :: i24 :: i25 :: i26 :: i27 :: i28 :: i29 :: i30 :: i31 :: i32 :: .string nm :: .int .i64 d :: .string sj :: rv :: .int .i64 b :: []), u.oneCell' = true := fun u hu => by
  rcases List.mem_cons.1 hu with rfl | hu
  · rfl
  · rcases List.mem_append.1 (show u ∈ (i1 :: i2 :: i3 :: i4 :: i5 :: i6 :: i7 :: i8 :: i9 :: i10 :: i11 :: i12 :: i13 :: i14 :: i15 :: i16 :: i17 :: i18 :: i19 :: i20 :: i21 :: i22 :: i23 :: i24 :: i25 :: i26 :: i27 :: i28 :: i29 :: i30 :: i31 :: i32 :: []) ++ (.string nm :: .int .i64 d :: .string sj :: rv :: .int .i64 b :: []) from hu) with h | h
    · exact hone u h
    · simp only [List.mem_cons, List.mem_nil_iff, or_false] at h
      rcases h with rfl | rfl | rfl | rfl | rfl
      · rfl
      · rfl
      · rfl
      · exact hrv
      · rfl
theorem bytes_one {l : List Value} {id : List UInt8} (h : l = byteVals id) : ∀ u ∈ l, u.oneCell' = true := fun u hu => by
  rw [h] at hu
  obtain ⟨x, _, rfl⟩ := List.mem_map.1 hu
  rfl
set_option maxHeartbeats 1600000 in
set_option maxRecDepth 100000 in
theorem clone_line_none (n : Int) (i1 i2 i3 i4 i5 i6 i7 i8 i9 i10 i11 i12 i13 i14 i15 i16 i17 i18 i19 i20 i21 i22 i23 i24 i25 i26 i27 i28 i29 i30 i31 i32 : Value) (nm : ByteArray) (d : Int) (sj : ByteArray) (b : Int) (w : World) (rv : Value) (hrv : rv = .slice none 0 0) (hone : ∀ u ∈ i1 :: i2 :: i3 :: i4 :: i5 :: i6 :: i7 :: i8 :: i9 :: i10 :: i11 :: i12 :: i13 :: i14 :: i15 :: i16 :: i17 :: i18 :: i19 :: i20 :: i21 :: i22 :: i23 :: i24 :: i25 :: i26 :: i27 :: i28 :: i29 :: i30 :: i31 :: i32 :: [], u.oneCell' = true) :
    Calls Tryz.prog 55 #[.agg ((.int .i64 n :: i1 :: i2 :: i3 :: i4 :: i5 :: i6 :: i7 :: i8 :: i9 :: i10 :: i11 :: i12 :: i13 :: i14 :: i15 :: i16 :: i17 :: i18 :: i19 :: i20 :: i21 :: i22 :: i23 :: i24 :: i25 :: i26 :: i27 :: i28 :: i29 :: i30 :: i31 :: i32 :: .string nm :: .int .i64 d :: .string sj :: rv :: .int .i64 b :: [])).toArray] w fun e w' => e = .returned (.agg ((.int .i64 n :: i1 :: i2 :: i3 :: i4 :: i5 :: i6 :: i7 :: i8 :: i9 :: i10 :: i11 :: i12 :: i13 :: i14 :: i15 :: i16 :: i17 :: i18 :: i19 :: i20 :: i21 :: i22 :: i23 :: i24 :: i25 :: i26 :: i27 :: i28 :: i29 :: i30 :: i31 :: i32 :: .string nm :: .int .i64 d :: .string sj :: rv :: .int .i64 b :: [])).toArray) ∧ Below w.heap.size w w' := by
  subst hrv
  obtain ⟨W, hW⟩ : ∃ W, W = (w.alloc (.cells (.int .i64 n :: i1 :: i2 :: i3 :: i4 :: i5 :: i6 :: i7 :: i8 :: i9 :: i10 :: i11 :: i12 :: i13 :: i14 :: i15 :: i16 :: i17 :: i18 :: i19 :: i20 :: i21 :: i22 :: i23 :: i24 :: i25 :: i26 :: i27 :: i28 :: i29 :: i30 :: i31 :: i32 :: .string nm :: .int .i64 d :: .string sj :: .slice none 0 0 :: .int .i64 b :: []).toArray 44)).alloc (.cells zl.toArray 44) := ⟨_, rfl⟩
  have hb : Below w.heap.size w W := by rw [hW]; exact ((Below.refl _ w).alloc (Nat.le_refl _) _).alloc (by simp) _
  have h0 : W.heap[w.heap.size]? = some (.cells (.int .i64 n :: i1 :: i2 :: i3 :: i4 :: i5 :: i6 :: i7 :: i8 :: i9 :: i10 :: i11 :: i12 :: i13 :: i14 :: i15 :: i16 :: i17 :: i18 :: i19 :: i20 :: i21 :: i22 :: i23 :: i24 :: i25 :: i26 :: i27 :: i28 :: i29 :: i30 :: i31 :: i32 :: .string nm :: .int .i64 d :: .string sj :: .slice none 0 0 :: .int .i64 b :: []).toArray 44 (0, 0)) := by rw [hW]; exact heap_alloc2_old _ _ _
  have h1 : W.heap[w.heap.size + 1]? = some (.cells zl.toArray 44 (0, 0)) := by rw [hW]; exact heap_alloc2_new _ _ _
  obtain ⟨W2, hW2⟩ : ∃ W2, W2 = W.setCell ⟨w.heap.size, 36, none⟩ (.slice none 0 0) := ⟨_, rfl⟩
  have k0 : W2.heap[w.heap.size]? = some (.cells (.int .i64 n :: i1 :: i2 :: i3 :: i4 :: i5 :: i6 :: i7 :: i8 :: i9 :: i10 :: i11 :: i12 :: i13 :: i14 :: i15 :: i16 :: i17 :: i18 :: i19 :: i20 :: i21 :: i22 :: i23 :: i24 :: i25 :: i26 :: i27 :: i28 :: i29 :: i30 :: i31 :: i32 :: .string nm :: .int .i64 d :: .string sj :: .slice none 0 0 :: .int .i64 b :: []).toArray 44 (0, 0)) := by rw [hW2]; exact heap_setCell_same W w.heap.size 36 _ _ _ h0
  have k1 : W2.heap[w.heap.size + 1]? = some (.cells zl.toArray 44 (0, 0)) := by rw [hW2]; exact (heap_setCell_other W _ _ _ (by show w.heap.size + 1 ≠ w.heap.size; omega)).trans h1
  have hb2 : Below w.heap.size w W2 := by rw [hW2]; exact hb.setCell (p := ⟨w.heap.size, 36, none⟩) (Nat.le_refl _) _
  have hall : (.int .i64 n :: i1 :: i2 :: i3 :: i4 :: i5 :: i6 :: i7 :: i8 :: i9 :: i10 :: i11 :: i12 :: i13 :: i14 :: i15 :: i16 :: i17 :: i18 :: i19 :: i20 :: i21 :: i22 :: i23 :: i24 :: i25 :: i26 :: i27 :: i28 :: i29 :: i30 :: i31 :: i32 :: .string nm :: .int .i64 d :: .string sj :: .slice none 0 0 :: .int .i64 b :: [] : List Value).toArray.all (·.oneCell') = true := all_oneCell_toArray (line_one n i1 i2 i3 i4 i5 i6 i7 i8 i9 i10 i11 i12 i13 i14 i15 i16 i17 i18 i19 i20 i21 i22 i23 i24 i25 i26 i27 i28 i29 i30 i31 i32 nm d sj (.slice none 0 0) b hone rfl)
  have hall' := Lib.hid hall
  have c36 := cells_at h0 36 _ rfl
  have f36 : W.frozen? ⟨w.heap.size, 36, none⟩ = false := frozen_of_row W w.heap.size 36 _ _ h0
  have hW' := Lib.hid hW
  have hW2' := Lib.hid hW2
  have hb2' := Lib.hid hb2
  have k0' := Lib.hid k0
  have k1' := Lib.hid k1
  clear hW hW2 hb hb2 h0 h1 k0 k1 hall
  go_enter Tryz.func55, Tryz.ntmps55
  have hzz := Tryz.zero_zl
  go_wp2_with (go_at_call 97; fail)
  rw [← hW'.out]
  refine (clone_ids_none _).mono ?_
  rintro e w1 ⟨rfl, rfl⟩
  go_wp2_with (first
    | (refine wpList_load_row rfl 44 _ rfl w.heap.size rfl _ _ _ _ (by rw [← hW2'.out]; exact k0'.out) Tryz.underlying44 rfl rfl ?_)
    | (refine wpList_store_row rfl 44 _ _ rfl (w.heap.size + 1) _ rfl rfl 44 zl.toArray (by rw [← hW2'.out]; exact k1'.out) (by kernel_rfl) rfl hall'.out ?_))
  rw [← hW2'.out]
  have hr := setRow_heap _ _ _ (.int .i64 n :: i1 :: i2 :: i3 :: i4 :: i5 :: i6 :: i7 :: i8 :: i9 :: i10 :: i11 :: i12 :: i13 :: i14 :: i15 :: i16 :: i17 :: i18 :: i19 :: i20 :: i21 :: i22 :: i23 :: i24 :: i25 :: i26 :: i27 :: i28 :: i29 :: i30 :: i31 :: i32 :: .string nm :: .int .i64 d :: .string sj :: .slice none 0 0 :: .int .i64 b :: [] : List Value).toArray _ _ k1'.out
  exact bodyPost_ret (v := .agg (.int .i64 n :: i1 :: i2 :: i3 :: i4 :: i5 :: i6 :: i7 :: i8 :: i9 :: i10 :: i11 :: i12 :: i13 :: i14 :: i15 :: i16 :: i17 :: i18 :: i19 :: i20 :: i21 :: i22 :: i23 :: i24 :: i25 :: i26 :: i27 :: i28 :: i29 :: i30 :: i31 :: i32 :: .string nm :: .int .i64 d :: .string sj :: .slice none 0 0 :: .int .i64 b :: [] : List Value).toArray) (results_cell_row Tryz.results55 _ _ (w.heap.size + 1) _ _ _ _ rfl hr Tryz.underlying44 rfl (by kernel_rfl)) rfl ⟨rfl, below_setRow hb2'.out (by omega)⟩
end Go.Proofs.YtnniijnfkbkdcaaGreatDoor
