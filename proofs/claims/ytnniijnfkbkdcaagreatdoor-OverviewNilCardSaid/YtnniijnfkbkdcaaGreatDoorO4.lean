/- The contract of a line's Check (overview). -/
import Derived.Test.YtnniijnfkbkdcaaGreatDoorO3
namespace Go.Proofs.YtnniijnfkbkdcaaGreatDoor
open Go Go.RowKit Go.Proofs
set_option linter.unusedSimpArgs false
set_option linter.unusedVariables false

def firstErr : List Int → Int
  | [] => 0
  | e :: r => if e = 0 then firstErr r else e
theorem firstErr_at : ∀ (es : List Int) (k : Nat), (∀ j, j < k → es.getD j 0 = 0) → es.getD k 0 ≠ 0 → firstErr es = es.getD k 0
  | [], k, _, h => by simp at h
  | e :: r, 0, _, h => by simp only [List.getD_cons_zero] at h ⊢; rw [firstErr, if_neg h]
  | e :: r, k + 1, h1, h => by
    have h0 : e = 0 := by simpa using h1 0 (by omega)
    rw [firstErr, if_pos h0, firstErr_at r k (fun j hj => by simpa using h1 (j + 1) (by omega)) (by simpa using h)]
    simp
theorem firstErr_none : ∀ (es : List Int), (∀ j, j < es.length → es.getD j 0 = 0) → firstErr es = 0
  | [], _ => rfl
  | e :: r, h => by
    have h0 : e = 0 := by simpa using h 0 (by simp)
    rw [firstErr, if_pos h0, firstErr_none r (fun j hj => by simpa using h (j + 1) (by simpa using hj))]
theorem Tryz.idx70 (a0 a1 a2 a3 a4 a5 a6 : Int) (w : World) : (Instr.index 126 (.agg #[.int .i64 a0, .int .i64 a1, .int .i64 a2, .int .i64 a3, .int .i64 a4, .int .i64 a5, .int .i64 a6]) (.int .i64 ((0 : Nat) : Int))).run Tryz.prog w = .ok (.int .i64 a0) w := by kernel_rfl
theorem Tryz.idx71 (a0 a1 a2 a3 a4 a5 a6 : Int) (w : World) : (Instr.index 126 (.agg #[.int .i64 a0, .int .i64 a1, .int .i64 a2, .int .i64 a3, .int .i64 a4, .int .i64 a5, .int .i64 a6]) (.int .i64 ((1 : Nat) : Int))).run Tryz.prog w = .ok (.int .i64 a1) w := by kernel_rfl
theorem Tryz.idx72 (a0 a1 a2 a3 a4 a5 a6 : Int) (w : World) : (Instr.index 126 (.agg #[.int .i64 a0, .int .i64 a1, .int .i64 a2, .int .i64 a3, .int .i64 a4, .int .i64 a5, .int .i64 a6]) (.int .i64 ((2 : Nat) : Int))).run Tryz.prog w = .ok (.int .i64 a2) w := by kernel_rfl
theorem Tryz.idx73 (a0 a1 a2 a3 a4 a5 a6 : Int) (w : World) : (Instr.index 126 (.agg #[.int .i64 a0, .int .i64 a1, .int .i64 a2, .int .i64 a3, .int .i64 a4, .int .i64 a5, .int .i64 a6]) (.int .i64 ((3 : Nat) : Int))).run Tryz.prog w = .ok (.int .i64 a3) w := by kernel_rfl
theorem Tryz.idx74 (a0 a1 a2 a3 a4 a5 a6 : Int) (w : World) : (Instr.index 126 (.agg #[.int .i64 a0, .int .i64 a1, .int .i64 a2, .int .i64 a3, .int .i64 a4, .int .i64 a5, .int .i64 a6]) (.int .i64 ((4 : Nat) : Int))).run Tryz.prog w = .ok (.int .i64 a4) w := by kernel_rfl
theorem Tryz.idx75 (a0 a1 a2 a3 a4 a5 a6 : Int) (w : World) : (Instr.index 126 (.agg #[.int .i64 a0, .int .i64 a1, .int .i64 a2, .int .i64 a3, .int .i64 a4, .int .i64 a5, .int .i64 a6]) (.int .i64 ((5 : Nat) : Int))).run Tryz.prog w = .ok (.int .i64 a5) w := by kernel_rfl
theorem Tryz.idx76 (a0 a1 a2 a3 a4 a5 a6 : Int) (w : World) : (Instr.index 126 (.agg #[.int .i64 a0, .int .i64 a1, .int .i64 a2, .int .i64 a3, .int .i64 a4, .int .i64 a5, .int .i64 a6]) (.int .i64 ((6 : Nat) : Int))).run Tryz.prog w = .ok (.int .i64 a6) w := by kernel_rfl
theorem Tryz.idx7 (es : List Int) (h : es.length = 7) (k : Nat) (hk : k < 7) (w : World) : (Instr.index 126 (.agg (es.map (Value.int .i64)).toArray) (.int .i64 (k : Int))).run Tryz.prog w = .ok (.int .i64 (es.getD k 0)) w := by
  obtain ⟨a0, r0, rfl, h0⟩ := listk 6 h
  obtain ⟨a1, r1, rfl, h1⟩ := listk 5 h0
  obtain ⟨a2, r2, rfl, h2⟩ := listk 4 h1
  obtain ⟨a3, r3, rfl, h3⟩ := listk 3 h2
  obtain ⟨a4, r4, rfl, h4⟩ := listk 2 h3
  obtain ⟨a5, r5, rfl, h5⟩ := listk 1 h4
  obtain ⟨a6, r6, rfl, h6⟩ := listk 0 h5
  obtain rfl := List.eq_nil_of_length_eq_zero h6
  match k, hk with
  | 0, _ => exact Tryz.idx70 a0 a1 a2 a3 a4 a5 a6 w
  | 1, _ => exact Tryz.idx71 a0 a1 a2 a3 a4 a5 a6 w
  | 2, _ => exact Tryz.idx72 a0 a1 a2 a3 a4 a5 a6 w
  | 3, _ => exact Tryz.idx73 a0 a1 a2 a3 a4 a5 a6 w
  | 4, _ => exact Tryz.idx74 a0 a1 a2 a3 a4 a5 a6 w
  | 5, _ => exact Tryz.idx75 a0 a1 a2 a3 a4 a5 a6 w
  | 6, _ => exact Tryz.idx76 a0 a1 a2 a3 a4 a5 a6 w
  | k + 7, h => exact absurd h (by omega)
set_option maxHeartbeats 1600000 in
set_option maxRecDepth 100000 in
theorem check_line (n : Int) (i1 i2 i3 i4 i5 i6 i7 i8 i9 i10 i11 i12 i13 i14 i15 i16 i17 i18 i19 i20 i21 i22 i23 i24 i25 i26 i27 i28 i29 i30 i31 i32 : Value) (nm : ByteArray) (d : Int) (sj : ByteArray) (rv : Value) (b er : Int) (w : World) (hnm : nm.size ≤ 9223372036854775807) (hsj : sj.size ≤ 9223372036854775807)
    (hr : ∀ W, Below w.heap.size w W → Calls Tryz.prog 120 #[rv] W fun e w' => e = .returned (.int .i64 er) ∧ Below W.heap.size W w') :
    Calls Tryz.prog 45 #[.agg ((.int .i64 n :: i1 :: i2 :: i3 :: i4 :: i5 :: i6 :: i7 :: i8 :: i9 :: i10 :: i11 :: i12 :: i13 :: i14 :: i15 :: i16 :: i17 :: i18 :: i19 :: i20 :: i21 :: i22 :: i23 :: i24 :: i25 :: i26 :: i27 :: i28 :: i29 :: i30 :: i31 :: i32 :: .string nm :: .int .i64 d :: .string sj :: rv :: .int .i64 b :: [])).toArray] w fun e w' => e = .returned (.int .i64 (firstErr (errs n nm d sj er b))) ∧ Below w.heap.size w w' := by
  obtain ⟨W, hW⟩ : ∃ W, W = w.alloc (.cells ((.int .i64 n :: i1 :: i2 :: i3 :: i4 :: i5 :: i6 :: i7 :: i8 :: i9 :: i10 :: i11 :: i12 :: i13 :: i14 :: i15 :: i16 :: i17 :: i18 :: i19 :: i20 :: i21 :: i22 :: i23 :: i24 :: i25 :: i26 :: i27 :: i28 :: i29 :: i30 :: i31 :: i32 :: .string nm :: .int .i64 d :: .string sj :: rv :: .int .i64 b :: [])).toArray 44) := ⟨_, rfl⟩
  have hb0 : Below w.heap.size w W := by rw [hW]; exact (Below.refl _ w).alloc (Nat.le_refl _) _
  have hck := checks_any n i1 i2 i3 i4 i5 i6 i7 i8 i9 i10 i11 i12 i13 i14 i15 i16 i17 i18 i19 i20 i21 i22 i23 i24 i25 i26 i27 i28 i29 i30 i31 i32 nm d sj rv b er W hnm hsj (fun W' h => hr W' (hb0.trans (h.mono hb0.size)))
  obtain ⟨es, hes⟩ : ∃ es, es = errs n nm d sj er b := ⟨_, rfl⟩
  have hl : es.length = 7 := by rw [hes]; rfl
  rw [← hes] at hck ⊢
  have hix := Tryz.idx7 es hl
  obtain ⟨ev, hev⟩ : ∃ ev, ev = (es.map (Value.int .i64)).toArray := ⟨_, rfl⟩
  rw [← hev] at hck hix
  have hck' := Lib.hid hck
  have hb0' := Lib.hid hb0
  have hW' := Lib.hid hW
  have hl' := Lib.hid hl
  have hix' := Lib.hid hix
  clear hck hb0 hW hr hes hl hix hev
  go_enter Tryz.func45, Tryz.ntmps45
  go_wp2_with (refine wpList_load_row rfl 44 _ rfl w.heap.size rfl _ _ _ _ (heap_alloc_new _ _) Tryz.underlying44 rfl rfl ?_)
  go_at_call 82
  rw [← hW'.out]
  refine hck'.out.mono ?_
  rintro e w1 ⟨rfl, hb1⟩
  have hb1' := Lib.hid (hb0'.out.trans (hb1.mono hb0'.out.size))
  clear hb1
  go_wp2_with fail
  go_loopw [4, 7] (fun _ i wr => ∃ k : Nat, k ≤ 7 ∧ i = .int .i64 k ∧ (∀ j, j < k → es.getD j 0 = 0) ∧ w1 = wr) (fun _ i _ => 7 - (intOf i).toNat)
  case atStart => exact ⟨0, by omega, rfl, (fun j h => by omega), rfl⟩
  case round =>
    obtain ⟨k, hk0, rfl, hz, rfl⟩ := hrel
    have hz' := Lib.hid hz
    clear hz
    by_cases hk : k < 7
    · have hx := hix'.out k hk w1
      obtain ⟨x, hxe⟩ : ∃ x, x = es.getD k 0 := ⟨_, rfl⟩
      rw [← hxe] at hx
      have hxe' := Lib.hid hxe
      clear hxe
      by_cases h0 : x = 0
      · subst h0
        go_wp2_with fail
        refine ⟨⟨k + 1, by omega, by go_num, fun j hj => ?_, by first | rfl | trivial⟩, by simp [intOf]; omega⟩
        rcases Nat.lt_succ_iff_lt_or_eq.1 hj with h | h
        · exact hz'.out j h
        · rw [h]; exact hxe'.out.symm
      · have h1 : (x == 0) = false := beq_eq_false_iff_ne.2 h0
        have h2 : (x != 0) = true := by simp [h0]
        go_wp2_with fail
        go_ret
        refine ⟨ret_int ?_, hb1'.out⟩
        rw [hxe'.out]
        exact (firstErr_at es k hz'.out (by rw [← hxe'.out]; exact h0)).symm
    · obtain rfl : k = 7 := by omega
      go_wp2_with fail
      go_ret
      exact ⟨ret_int (firstErr_none es (fun j hj => hz'.out j (by have := hl'.out; omega))).symm, hb1'.out⟩
end Go.Proofs.YtnniijnfkbkdcaaGreatDoor
