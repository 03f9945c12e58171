/- What a nil index tells. -/
import Derived.Test.YtnniijnfkbkdcaaGreatDoorOC
namespace Go.Proofs.YtnniijnfkbkdcaaGreatDoor
open Go Go.RowKit Go.Proofs
set_option linter.unusedSimpArgs false
set_option linter.unusedVariables false

set_option maxHeartbeats 1600000 in
set_option maxRecDepth 100000 in
theorem get_nil (g : ByteArray) (n : Int) ( w : World) :
    Calls Tryz.prog 31 #[.pointer none, .string g, .int .i64 n] w fun e w' => e = .returned (.tuple #[.agg zl.toArray, .bool false]) ∧ Below w.heap.size w w' := by
  obtain ⟨W, hW⟩ : ∃ W, W = w.alloc (.cells zl.toArray 44) := ⟨_, rfl⟩
  go_enter Tryz.func31, Tryz.ntmps31
  have hbz := Tryz.build_zl
  have hzz := Tryz.zero_zl
  go_wp2_with (refine wpList_store_row rfl 44 _ _ rfl w.heap.size zl.toArray rfl rfl 44 zl.toArray (heap_alloc_new _ _) (by kernel_rfl) rfl zl_one ?_)
  rw [← hW]
  have hb : Below w.heap.size w W := by rw [hW]; exact (Below.refl _ w).alloc (Nat.le_refl _) _
  have hr : (W.setRow w.heap.size zl.toArray).heap[w.heap.size]? = some (.cells zl.toArray 44 (0, 0)) := setRow_heap _ _ _ _ _ _ (by rw [hW]; exact heap_alloc_new _ _)
  exact bodyPost_ret (v := .tuple #[.agg zl.toArray, .bool false]) (results_row_tmp Tryz.results31 _ _ w.heap.size _ _ _ _ rfl hr Tryz.underlying44 rfl (by kernel_rfl)) rfl ⟨rfl, below_setRow hb (by omega)⟩
set_option maxHeartbeats 1600000 in
set_option maxRecDepth 100000 in
theorem next_nil (g : ByteArray) (n : Int) ( w : World) :
    Calls Tryz.prog 33 #[.pointer none, .string g, .int .i64 n] w fun e w' => e = .returned (.tuple #[.agg zl.toArray, .bool false]) ∧ Below w.heap.size w w' := by
  obtain ⟨W, hW⟩ : ∃ W, W = w.alloc (.cells zl.toArray 44) := ⟨_, rfl⟩
  go_enter Tryz.func33, Tryz.ntmps33
  have hbz := Tryz.build_zl
  have hzz := Tryz.zero_zl
  go_wp2_with (refine wpList_store_row rfl 44 _ _ rfl w.heap.size zl.toArray rfl rfl 44 zl.toArray (heap_alloc_new _ _) (by kernel_rfl) rfl zl_one ?_)
  rw [← hW]
  have hb : Below w.heap.size w W := by rw [hW]; exact (Below.refl _ w).alloc (Nat.le_refl _) _
  have hr : (W.setRow w.heap.size zl.toArray).heap[w.heap.size]? = some (.cells zl.toArray 44 (0, 0)) := setRow_heap _ _ _ _ _ _ (by rw [hW]; exact heap_alloc_new _ _)
  exact bodyPost_ret (v := .tuple #[.agg zl.toArray, .bool false]) (results_row_tmp Tryz.results33 _ _ w.heap.size _ _ _ _ rfl hr Tryz.underlying44 rfl (by kernel_rfl)) rfl ⟨rfl, below_setRow hb (by omega)⟩
set_option maxHeartbeats 1600000 in
set_option maxRecDepth 100000 in
theorem previous_nil (g : ByteArray) (n : Int) ( w : World) :
    Calls Tryz.prog 34 #[.pointer none, .string g, .int .i64 n] w fun e w' => e = .returned (.tuple #[.agg zl.toArray, .bool false]) ∧ Below w.heap.size w w' := by
  obtain ⟨W, hW⟩ : ∃ W, W = w.alloc (.cells zl.toArray 44) := ⟨_, rfl⟩
  go_enter Tryz.func34, Tryz.ntmps34
  have hbz := Tryz.build_zl
  have hzz := Tryz.zero_zl
  go_wp2_with (refine wpList_store_row rfl 44 _ _ rfl w.heap.size zl.toArray rfl rfl 44 zl.toArray (heap_alloc_new _ _) (by kernel_rfl) rfl zl_one ?_)
  rw [← hW]
  have hb : Below w.heap.size w W := by rw [hW]; exact (Below.refl _ w).alloc (Nat.le_refl _) _
  have hr : (W.setRow w.heap.size zl.toArray).heap[w.heap.size]? = some (.cells zl.toArray 44 (0, 0)) := setRow_heap _ _ _ _ _ _ (by rw [hW]; exact heap_alloc_new _ _)
  exact bodyPost_ret (v := .tuple #[.agg zl.toArray, .bool false]) (results_row_tmp Tryz.results34 _ _ w.heap.size _ _ _ _ rfl hr Tryz.underlying44 rfl (by kernel_rfl)) rfl ⟨rfl, below_setRow hb (by omega)⟩
set_option maxHeartbeats 1600000 in
set_option maxRecDepth 100000 in
theorem groups_nil (w : World) : Calls Tryz.prog 41 #[.pointer none] w fun e w' => e = .returned (.slice none 0 0) ∧ w = w' := by
  go_enter Tryz.func41, Tryz.ntmps41
  go_wp2_with fail
  go_ret
  exact ⟨rfl, rfl⟩
set_option maxHeartbeats 1600000 in
set_option maxRecDepth 100000 in
theorem clone_nil (w : World) : Calls Tryz.prog 37 #[.pointer none] w fun e w' => e = .returned (.pointer none) ∧ w = w' := by
  go_enter Tryz.func37, Tryz.ntmps37
  go_wp2_with fail
  go_ret
  exact ⟨rfl, rfl⟩
set_option maxHeartbeats 1600000 in
set_option maxRecDepth 100000 in
theorem equal_nil_nil (w : World) : Calls Tryz.prog 28 #[.pointer none, .pointer none] w fun e w' => e = .returned (.bool true) ∧ w = w' := by
  go_enter Tryz.func28, Tryz.ntmps28
  go_wp2_with fail
  go_ret
  exact ⟨rfl, rfl⟩
set_option maxHeartbeats 1600000 in
set_option maxRecDepth 100000 in
theorem equal_nil_some (b : Nat) (w : World) : Calls Tryz.prog 28 #[.pointer none, .pointer (some ⟨b, 0, none⟩)] w fun e w' => e = .returned (.bool false) ∧ w = w' := by
  go_enter Tryz.func28, Tryz.ntmps28
  go_wp2_with fail
  go_ret
  exact ⟨rfl, rfl⟩
set_option maxHeartbeats 1600000 in
set_option maxRecDepth 100000 in
theorem equal_some_nil (b : Nat) (w : World) : Calls Tryz.prog 28 #[.pointer (some ⟨b, 0, none⟩), .pointer none] w fun e w' => e = .returned (.bool false) ∧ w = w' := by
  go_enter Tryz.func28, Tryz.ntmps28
  go_wp2_with fail
  go_ret
  exact ⟨rfl, rfl⟩
set_option maxHeartbeats 1600000 in
set_option maxRecDepth 100000 in
theorem remove_nil (g : ByteArray) (n : Int) (w : World) : Calls Tryz.prog 23 #[.pointer none, .string g, .int .i64 n] w fun e w' => e = .returned (.int .i64 1) ∧ w = w' := by
  go_enter Tryz.func23, Tryz.ntmps23
  go_wp2_with fail
  go_ret
  exact ⟨rfl, rfl⟩
set_option maxHeartbeats 1600000 in
set_option maxRecDepth 100000 in
theorem add_nil (g : ByteArray) (cs : Array Value) (w : World) (hs : cs.size = 38) : Calls Tryz.prog 24 #[.pointer none, .string g, .agg cs] w fun e w' => e = .returned (.int .i64 1) ∧ Below w.heap.size w w' := by
  go_enter Tryz.func24, Tryz.ntmps24
  go_wp2_with fail
  go_ret
  exact ⟨rfl, (Below.refl _ w).alloc (Nat.le_refl _) _⟩
set_option maxHeartbeats 1600000 in
set_option maxRecDepth 100000 in
theorem where_nil (i1 i2 i3 i4 i5 i6 i7 i8 i9 i10 i11 i12 i13 i14 i15 i16 i17 i18 i19 i20 i21 i22 i23 i24 i25 i26 i27 i28 i29 i30 i31 i32 : Value) (w : World) : Calls Tryz.prog 36 #[.pointer none, .agg (i1 :: i2 :: i3 :: i4 :: i5 :: i6 :: i7 :: i8 :: i9 :: i10 :: i11 :: i12 :: i13 :: i14 :: i15 :: i16 :: i17 :: i18 :: i19 :: i20 :: i21 :: i22 :: i23 :: i24 :: i25 :: i26 :: i27 :: i28 :: i29 :: i30 :: i31 :: i32 :: []).toArray] w fun e w' => e = .returned (.slice none 0 0) ∧ Below w.heap.size w w' := by
  go_enter Tryz.func36, Tryz.ntmps36
  go_wp2_with (go_at_call 41; refine (groups_nil _).mono ?_; rintro e w' ⟨rfl, rfl⟩)
  refine wp_loop_once ?_
  go_wp2_with fail
  go_ret
  exact ⟨rfl, (Below.refl _ w).alloc (Nat.le_refl _) _⟩
set_option maxHeartbeats 1600000 in
set_option maxRecDepth 100000 in
theorem removeid_nil (i1 i2 i3 i4 i5 i6 i7 i8 i9 i10 i11 i12 i13 i14 i15 i16 i17 i18 i19 i20 i21 i22 i23 i24 i25 i26 i27 i28 i29 i30 i31 i32 : Value) (w : World) : Calls Tryz.prog 40 #[.pointer none, .agg (i1 :: i2 :: i3 :: i4 :: i5 :: i6 :: i7 :: i8 :: i9 :: i10 :: i11 :: i12 :: i13 :: i14 :: i15 :: i16 :: i17 :: i18 :: i19 :: i20 :: i21 :: i22 :: i23 :: i24 :: i25 :: i26 :: i27 :: i28 :: i29 :: i30 :: i31 :: i32 :: []).toArray] w fun e w' => e = .returned (.int .i64 0) ∧ Below w.heap.size w w' := by
  have hb : Below w.heap.size w (w.alloc (.cells (i1 :: i2 :: i3 :: i4 :: i5 :: i6 :: i7 :: i8 :: i9 :: i10 :: i11 :: i12 :: i13 :: i14 :: i15 :: i16 :: i17 :: i18 :: i19 :: i20 :: i21 :: i22 :: i23 :: i24 :: i25 :: i26 :: i27 :: i28 :: i29 :: i30 :: i31 :: i32 :: []).toArray 31)) := (Below.refl _ w).alloc (Nat.le_refl _) _
  have hb' := Lib.hid hb
  clear hb
  go_enter Tryz.func40, Tryz.ntmps40
  go_wp2_with (first
    | (refine wpList_load_row rfl 31 _ rfl w.heap.size rfl _ _ _ _ (heap_alloc_new _ _) Tryz.underlying31 rfl rfl ?_)
    | (go_at_call 36; refine (where_nil i1 i2 i3 i4 i5 i6 i7 i8 i9 i10 i11 i12 i13 i14 i15 i16 i17 i18 i19 i20 i21 i22 i23 i24 i25 i26 i27 i28 i29 i30 i31 i32 _).mono ?_; rintro e w' ⟨rfl, hb1⟩; have hb2 := Lib.hid (hb'.out.trans (hb1.mono hb'.out.size)); clear hb1))
  refine wp_loop_once ?_
  go_wp2_with fail
  go_ret
  exact ⟨rfl, hb2.out⟩
set_option maxHeartbeats 1600000 in
set_option maxRecDepth 100000 in
theorem encode_nil (w : World) : Calls Tryz.prog 29 #[.pointer none] w fun e w' => e = .returned (.string ⟨#[]⟩) ∧ Below w.heap.size w w' := by
  obtain ⟨W, hW⟩ : ∃ W, W = w.alloc (.cells #[.pointer none, .slice none 0 0] 109) := ⟨_, rfl⟩
  have hb0 : Below w.heap.size w W := by rw [hW]; exact (Below.refl _ w).alloc (Nat.le_refl _) _
  have hbd0 : Lib.IsBuilderF 109 5 w.heap.size w.heap.size (Lib.byteCells []) W := Lib.IsBuilderF.of (.inl ⟨Nat.le_refl _, .slice none 0 0, by rw [hW]; exact heap_alloc_new _ _, World.ownsRow_nil _ _ _ _, by simp [Value.ownBlock]⟩)
  have hstr := string_any w.heap.size w.heap.size [] W hbd0 hb0.size
  have hb0' := Lib.hid hb0
  have hstr' := Lib.hid hstr
  have hW' := Lib.hid hW
  clear hb0 hbd0 hstr hW
  go_enter Tryz.func29, Tryz.ntmps29
  go_wp2_with (go_at_call 41; refine (groups_nil _).mono ?_; rintro e w' ⟨rfl, rfl⟩)
  refine wp_loop_once ?_
  go_wp2_with (go_at_call 69; fail)
  rw [← hW'.out]
  refine hstr'.out.mono ?_
  rintro e w1 ⟨rfl, _, hb1, _⟩
  have hb2 := Lib.hid (hb0'.out.trans hb1)
  clear hb1
  go_wp2_with fail
  go_ret
  exact ⟨rfl, hb2.out⟩
end Go.Proofs.YtnniijnfkbkdcaaGreatDoor
