/- Same at two zero lines; zero. (Printed by wip/gen_og.py.) -/
import Derived.Test.YtnniijnfkbkdcaaGreatDoorOG
namespace Go.Proofs.YtnniijnfkbkdcaaGreatDoor
open Go Go.RowKit Go.Proofs
set_option linter.unusedSimpArgs false
set_option linter.unusedVariables false

set_option maxHeartbeats 400000 in
set_option maxRecDepth 100000 in
theorem same_zero (w : World) : Calls Tryz.prog 21 #[.agg (.string ⟨#[]⟩ :: .int .i64 0 :: .int .u8 0 :: .int .u8 0 :: .int .u8 0 :: .int .u8 0 :: .int .u8 0 :: .int .u8 0 :: .int .u8 0 :: .int .u8 0 :: .int .u8 0 :: .int .u8 0 :: .int .u8 0 :: .int .u8 0 :: .int .u8 0 :: .int .u8 0 :: .int .u8 0 :: .int .u8 0 :: .int .u8 0 :: .int .u8 0 :: .int .u8 0 :: .int .u8 0 :: .int .u8 0 :: .int .u8 0 :: .int .u8 0 :: .int .u8 0 :: .int .u8 0 :: .int .u8 0 :: .int .u8 0 :: .int .u8 0 :: .int .u8 0 :: .int .u8 0 :: .int .u8 0 :: .int .u8 0 :: .string ⟨#[]⟩ :: .int .i64 0 :: .string ⟨#[]⟩ :: .slice none 0 0 :: .int .i64 0 :: [] : List Value).toArray, .agg (.string ⟨#[]⟩ :: .int .i64 0 :: .int .u8 0 :: .int .u8 0 :: .int .u8 0 :: .int .u8 0 :: .int .u8 0 :: .int .u8 0 :: .int .u8 0 :: .int .u8 0 :: .int .u8 0 :: .int .u8 0 :: .int .u8 0 :: .int .u8 0 :: .int .u8 0 :: .int .u8 0 :: .int .u8 0 :: .int .u8 0 :: .int .u8 0 :: .int .u8 0 :: .int .u8 0 :: .int .u8 0 :: .int .u8 0 :: .int .u8 0 :: .int .u8 0 :: .int .u8 0 :: .int .u8 0 :: .int .u8 0 :: .int .u8 0 :: .int .u8 0 :: .int .u8 0 :: .int .u8 0 :: .int .u8 0 :: .int .u8 0 :: .string ⟨#[]⟩ :: .int .i64 0 :: .string ⟨#[]⟩ :: .slice none 0 0 :: .int .i64 0 :: [] : List Value).toArray] w fun e w' => e = .returned (.bool true) ∧ Below w.heap.size w w' := by
  obtain ⟨W, hW⟩ : ∃ W, W = (w.alloc (.cells (.string ⟨#[]⟩ :: .int .i64 0 :: .int .u8 0 :: .int .u8 0 :: .int .u8 0 :: .int .u8 0 :: .int .u8 0 :: .int .u8 0 :: .int .u8 0 :: .int .u8 0 :: .int .u8 0 :: .int .u8 0 :: .int .u8 0 :: .int .u8 0 :: .int .u8 0 :: .int .u8 0 :: .int .u8 0 :: .int .u8 0 :: .int .u8 0 :: .int .u8 0 :: .int .u8 0 :: .int .u8 0 :: .int .u8 0 :: .int .u8 0 :: .int .u8 0 :: .int .u8 0 :: .int .u8 0 :: .int .u8 0 :: .int .u8 0 :: .int .u8 0 :: .int .u8 0 :: .int .u8 0 :: .int .u8 0 :: .int .u8 0 :: .string ⟨#[]⟩ :: .int .i64 0 :: .string ⟨#[]⟩ :: .slice none 0 0 :: .int .i64 0 :: [] : List Value).toArray 34)).alloc (.cells (.string ⟨#[]⟩ :: .int .i64 0 :: .int .u8 0 :: .int .u8 0 :: .int .u8 0 :: .int .u8 0 :: .int .u8 0 :: .int .u8 0 :: .int .u8 0 :: .int .u8 0 :: .int .u8 0 :: .int .u8 0 :: .int .u8 0 :: .int .u8 0 :: .int .u8 0 :: .int .u8 0 :: .int .u8 0 :: .int .u8 0 :: .int .u8 0 :: .int .u8 0 :: .int .u8 0 :: .int .u8 0 :: .int .u8 0 :: .int .u8 0 :: .int .u8 0 :: .int .u8 0 :: .int .u8 0 :: .int .u8 0 :: .int .u8 0 :: .int .u8 0 :: .int .u8 0 :: .int .u8 0 :: .int .u8 0 :: .int .u8 0 :: .string ⟨#[]⟩ :: .int .i64 0 :: .string ⟨#[]⟩ :: .slice none 0 0 :: .int .i64 0 :: [] : List Value).toArray 34) := ⟨_, rfl⟩
  have hb : Below w.heap.size w W := by rw [hW]; exact ((Below.refl _ w).alloc (Nat.le_refl _) _).alloc (by simp) _
  have h0 : W.heap[w.heap.size]? = some (.cells (.string ⟨#[]⟩ :: .int .i64 0 :: .int .u8 0 :: .int .u8 0 :: .int .u8 0 :: .int .u8 0 :: .int .u8 0 :: .int .u8 0 :: .int .u8 0 :: .int .u8 0 :: .int .u8 0 :: .int .u8 0 :: .int .u8 0 :: .int .u8 0 :: .int .u8 0 :: .int .u8 0 :: .int .u8 0 :: .int .u8 0 :: .int .u8 0 :: .int .u8 0 :: .int .u8 0 :: .int .u8 0 :: .int .u8 0 :: .int .u8 0 :: .int .u8 0 :: .int .u8 0 :: .int .u8 0 :: .int .u8 0 :: .int .u8 0 :: .int .u8 0 :: .int .u8 0 :: .int .u8 0 :: .int .u8 0 :: .int .u8 0 :: .string ⟨#[]⟩ :: .int .i64 0 :: .string ⟨#[]⟩ :: .slice none 0 0 :: .int .i64 0 :: [] : List Value).toArray 34 (0, 0)) := by rw [hW]; exact heap_alloc2_old _ _ _
  have h1 : W.heap[w.heap.size + 1]? = some (.cells (.string ⟨#[]⟩ :: .int .i64 0 :: .int .u8 0 :: .int .u8 0 :: .int .u8 0 :: .int .u8 0 :: .int .u8 0 :: .int .u8 0 :: .int .u8 0 :: .int .u8 0 :: .int .u8 0 :: .int .u8 0 :: .int .u8 0 :: .int .u8 0 :: .int .u8 0 :: .int .u8 0 :: .int .u8 0 :: .int .u8 0 :: .int .u8 0 :: .int .u8 0 :: .int .u8 0 :: .int .u8 0 :: .int .u8 0 :: .int .u8 0 :: .int .u8 0 :: .int .u8 0 :: .int .u8 0 :: .int .u8 0 :: .int .u8 0 :: .int .u8 0 :: .int .u8 0 :: .int .u8 0 :: .int .u8 0 :: .int .u8 0 :: .string ⟨#[]⟩ :: .int .i64 0 :: .string ⟨#[]⟩ :: .slice none 0 0 :: .int .i64 0 :: [] : List Value).toArray 34 (0, 0)) := by rw [hW]; exact heap_alloc2_new _ _ _
  have hir : ∀ p, W.heap[p]? = some (.cells (.string ⟨#[]⟩ :: .int .i64 0 :: .int .u8 0 :: .int .u8 0 :: .int .u8 0 :: .int .u8 0 :: .int .u8 0 :: .int .u8 0 :: .int .u8 0 :: .int .u8 0 :: .int .u8 0 :: .int .u8 0 :: .int .u8 0 :: .int .u8 0 :: .int .u8 0 :: .int .u8 0 :: .int .u8 0 :: .int .u8 0 :: .int .u8 0 :: .int .u8 0 :: .int .u8 0 :: .int .u8 0 :: .int .u8 0 :: .int .u8 0 :: .int .u8 0 :: .int .u8 0 :: .int .u8 0 :: .int .u8 0 :: .int .u8 0 :: .int .u8 0 :: .int .u8 0 :: .int .u8 0 :: .int .u8 0 :: .int .u8 0 :: .string ⟨#[]⟩ :: .int .i64 0 :: .string ⟨#[]⟩ :: .slice none 0 0 :: .int .i64 0 :: [] : List Value).toArray 34 (0, 0)) → W.rangeAt p 2 (.int .u8 0 :: .int .u8 0 :: .int .u8 0 :: .int .u8 0 :: .int .u8 0 :: .int .u8 0 :: .int .u8 0 :: .int .u8 0 :: .int .u8 0 :: .int .u8 0 :: .int .u8 0 :: .int .u8 0 :: .int .u8 0 :: .int .u8 0 :: .int .u8 0 :: .int .u8 0 :: .int .u8 0 :: .int .u8 0 :: .int .u8 0 :: .int .u8 0 :: .int .u8 0 :: .int .u8 0 :: .int .u8 0 :: .int .u8 0 :: .int .u8 0 :: .int .u8 0 :: .int .u8 0 :: .int .u8 0 :: .int .u8 0 :: .int .u8 0 :: .int .u8 0 :: .int .u8 0 :: []) := fun p hp j v hj => by
    refine cells_at hp (2 + j) v ?_
    have hj32 : j < 32 := (List.getElem?_eq_some_iff.1 hj).1
    rw [Nat.add_comm, List.getElem?_cons_succ, List.getElem?_cons_succ]
    exact (List.getElem?_append_left (l₂ := .string ⟨#[]⟩ :: .int .i64 0 :: .string ⟨#[]⟩ :: .slice none 0 0 :: .int .i64 0 :: []) hj32).trans hj
  have i0 := hir _ h0
  have i1 := hir _ h1
  have a0 := cells_at h0 0 _ rfl
  have a1 := cells_at h0 1 _ rfl
  have a2 := cells_at h0 34 _ rfl
  have a3 := cells_at h0 35 _ rfl
  have a4 := cells_at h0 36 _ rfl
  have a5 := cells_at h0 37 _ rfl
  have a6 := cells_at h0 38 _ rfl
  have b0 := cells_at h1 0 _ rfl
  have b1 := cells_at h1 1 _ rfl
  have b2 := cells_at h1 34 _ rfl
  have b3 := cells_at h1 35 _ rfl
  have b4 := cells_at h1 36 _ rfl
  have b5 := cells_at h1 37 _ rfl
  have b6 := cells_at h1 38 _ rfl
  have hb' := Lib.hid hb
  have i0' := Lib.hid i0
  have i1' := Lib.hid i1
  have hW' := Lib.hid hW
  clear hb h0 h1 hir i0 i1
  go_enter Tryz.func21, Tryz.ntmps21
  clear hW
  have hne := Tryz.neq_z32
  go_wp2_with (first
    | (rw [← hW'.out])
    | (refine wpList_load_guard rfl 31 _ rfl w.heap.size 2 rfl _ _ i0'.out Tryz.underlying31 rfl rfl ?_)
    | (refine wpList_load_guard rfl 31 _ rfl (w.heap.size + 1) 2 rfl _ _ i1'.out Tryz.underlying31 rfl rfl ?_))
  refine wp_loop_once ?_
  go_wp2_with fail
  go_ret
  exact ⟨rfl, hb'.out⟩
theorem zeros_one : ∀ u ∈ (.int .u8 0 :: .int .u8 0 :: .int .u8 0 :: .int .u8 0 :: .int .u8 0 :: .int .u8 0 :: .int .u8 0 :: .int .u8 0 :: .int .u8 0 :: .int .u8 0 :: .int .u8 0 :: .int .u8 0 :: .int .u8 0 :: .int .u8 0 :: .int .u8 0 :: .int .u8 0 :: .int .u8 0 :: .int .u8 0 :: .int .u8 0 :: .int .u8 0 :: .int .u8 0 :: .int .u8 0 :: .int .u8 0 :: .int .u8 0 :: .int .u8 0 :: .int .u8 0 :: .int .u8 0 :: .int .u8 0 :: .int .u8 0 :: .int .u8 0 :: .int .u8 0 :: .int .u8 0 :: [] : List Value), u.oneCell' = true := bytes_one zeros_id0
set_option maxHeartbeats 800000 in
set_option maxRecDepth 100000 in
theorem zero_zl (w : World) : Calls Tryz.prog 32 #[.agg zl.toArray] w fun e w' => e = .returned (.bool true) ∧ Below w.heap.size w w' := by
  have hbk : ∀ W, Calls Tryz.prog 22 #[.string ⟨#[]⟩, .agg zl.toArray] W fun e w' => e = .returned (.agg zrl.toArray) ∧ Below W.heap.size W w' := fun W => back_any ⟨#[]⟩ 0 (.int .u8 0) (.int .u8 0) (.int .u8 0) (.int .u8 0) (.int .u8 0) (.int .u8 0) (.int .u8 0) (.int .u8 0) (.int .u8 0) (.int .u8 0) (.int .u8 0) (.int .u8 0) (.int .u8 0) (.int .u8 0) (.int .u8 0) (.int .u8 0) (.int .u8 0) (.int .u8 0) (.int .u8 0) (.int .u8 0) (.int .u8 0) (.int .u8 0) (.int .u8 0) (.int .u8 0) (.int .u8 0) (.int .u8 0) (.int .u8 0) (.int .u8 0) (.int .u8 0) (.int .u8 0) (.int .u8 0) (.int .u8 0) ⟨#[]⟩ 0 ⟨#[]⟩ none 0 0 0 W (.slice none 0 0) rfl zeros_one
  have hsm : ∀ W, Calls Tryz.prog 21 #[.agg zrl.toArray, .agg zrl.toArray] W fun e w' => e = .returned (.bool true) ∧ Below W.heap.size W w' := fun W => same_zero W
  have hbk' := Lib.hid hbk
  have hsm' := Lib.hid hsm
  have hb0 := Lib.hid ((Below.refl w.heap.size w).alloc (Nat.le_refl _) (.cells zl.toArray 44))
  clear hbk hsm
  have hzr := Tryz.build_zrl
  go_enter Tryz.func32, Tryz.ntmps32
  go_wp2_with (refine wpList_load_row rfl 44 _ rfl w.heap.size rfl _ _ _ _ (heap_alloc_new _ _) Tryz.underlying44 rfl rfl ?_)
  go_at_call 22
  refine (hbk'.out _).mono ?_
  rintro e w1 ⟨rfl, hb⟩
  have hb1 := Lib.hid (hb0.out.trans (hb.mono hb0.out.size))
  clear hb
  go_wp2_with (go_at_call 21; fail)
  refine (hsm'.out _).mono ?_
  rintro e w2 ⟨rfl, hb⟩
  have hb2 := Lib.hid (hb1.out.trans (hb.mono hb1.out.size))
  clear hb
  go_wp2_with fail
  go_ret
  exact ⟨rfl, hb2.out⟩
end Go.Proofs.YtnniijnfkbkdcaaGreatDoor
