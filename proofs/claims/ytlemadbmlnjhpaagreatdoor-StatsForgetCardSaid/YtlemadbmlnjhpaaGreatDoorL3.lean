/- cmp.Or at numbers; the order of keys. -/
import Derived.Test.YtlemadbmlnjhpaaGreatDoorL2
namespace Go.Proofs.YtlemadbmlnjhpaaGreatDoor
open Go Go.RowKit Go.Proofs
open Go.Sort (grow)
set_option linter.unusedSimpArgs false
set_option linter.unusedVariables false

/-- the first number that is not 0 -/
def orL : List Int → Int
  | [] => 0
  | x :: r => if x ≠ 0 then x else orL r
theorem orL_drop {l : List Int} {k : Nat} (h : k < l.length) : orL (l.drop k) = if l.getD k 0 ≠ 0 then l.getD k 0 else orL (l.drop (k + 1)) := by
  rw [List.drop_eq_getElem_cons h, orL, List.getD_eq_getElem?_getD, List.getElem?_eq_getElem h, Option.getD_some]
set_option maxHeartbeats 800000 in
theorem or_any (v : Value) (l : List Int) (w : World) (hv : SliceInt w v l) : Calls Tryz.prog 85 #[v] w fun e w' => e = .returned (.int .i64 (orL l)) ∧ w' = w := by
  obtain ⟨va, vc, rfl, hl, hf⟩ := hv.form
  have hf' := Lib.hid hf
  clear hf hv
  go_enter Tryz.func85, Tryz.ntmps85
  go_wp2_with fail
  go_loop [8] (fun i => ∃ k : Nat, k ≤ l.length ∧ i = .int .i64 k ∧ orL l = orL (l.drop k)) (fun i => l.length - (intOf i).toNat)
  case atStart => exact ⟨0, by omega, rfl, rfl⟩
  case round =>
    obtain ⟨k, hk0, rfl, ho⟩ := hrel
    have ho' := Lib.hid ho
    clear ho
    by_cases hk : k < l.length
    · obtain ⟨bb, o, rfl, hc⟩ := hf'.out k hk
      obtain ⟨z, hz⟩ : ∃ z, z = l.getD k 0 := ⟨_, rfl⟩
      rw [← hz] at hc
      have hd := orL_drop hk
      rw [← hz] at hd
      have hd' := Lib.hid hd
      clear hd hz
      by_cases hz0 : z = 0
      · subst hz0
        have hq : ((0 : Int) != 0) = false := rfl
        go_wp2_with fail
        exact ⟨⟨k + 1, by omega, by go_num, by rw [ho'.out, hd'.out]; simp⟩, by simp [intOf]; omega⟩
      · have hq : (z != 0) = true := by simpa using hz0
        go_wp2_with fail
        go_ret
        exact ⟨ret_int (by rw [ho'.out, hd'.out, if_pos hz0]), rfl⟩
    · go_wp2_with fail
      go_ret
      refine ⟨ret_int ?_, rfl⟩
      rw [ho'.out, List.drop_of_length_le (by omega)]; rfl

theorem grow_three (w : World) (a b c : Obj) : (((w.alloc a).alloc b).drew).alloc c = grow (w.drewN 1) #[a, b, c] := by
  show ({ w with heap := ((w.heap.push a).push b).push c, drawn := w.drawn + 1 } : World) = { w with heap := w.heap ++ #[a, b, c], drawn := w.drawn + 1 }
  congr 1
def cmpK (a b : Key) : Int := orL [Lib.compareInt a.1 b.1, Lib.compareInt a.2.1 b.2.1, Lib.compareBytes a.2.2.data.toList b.2.2.data.toList]
set_option maxRecDepth 100000 in
set_option maxHeartbeats 1600000 in
theorem compare_lit (a1 a2 b1 b2 : Int) (a3 b3 : ByteArray) (w : World) :
    Calls Tryz.prog 63 #[.agg #[.int .i64 a1, .int .i64 a2, .string a3], .agg #[.int .i64 b1, .int .i64 b2, .string b3]] w fun e w' => e = .returned (.int .i64 (cmpK (a1, a2, a3) (b1, b2, b3))) ∧ ∃ q os, w' = grow (w.drewN q) os := by
  obtain ⟨W, hW⟩ : ∃ W, W = (w.alloc (.cells #[.int .i64 a1, .int .i64 a2, .string a3] 64)).alloc (.cells #[.int .i64 b1, .int .i64 b2, .string b3] 64) := ⟨_, rfl⟩
  have r0 : W.heap[w.heap.size]? = some (.cells #[.int .i64 a1, .int .i64 a2, .string a3] 64 (0, 0)) := by rw [hW]; exact heap_alloc2_old _ _ _
  have r1 : W.heap[w.heap.size + 1]? = some (.cells #[.int .i64 b1, .int .i64 b2, .string b3] 64 (0, 0)) := by rw [hW]; exact heap_alloc2_new _ _ _
  have c0 : W.cell? ⟨w.heap.size, 0, none⟩ = some (.int .i64 a1) := by rw [cell_of_row _ _ _ _ _ _ r0]; rfl
  have c1 : W.cell? ⟨w.heap.size, 1, none⟩ = some (.int .i64 a2) := by rw [cell_of_row _ _ _ _ _ _ r0]; rfl
  have c2 : W.cell? ⟨w.heap.size, 2, none⟩ = some (.string a3) := by rw [cell_of_row _ _ _ _ _ _ r0]; rfl
  have d0 : W.cell? ⟨w.heap.size + 1, 0, none⟩ = some (.int .i64 b1) := by rw [cell_of_row _ _ _ _ _ _ r1]; rfl
  have d1 : W.cell? ⟨w.heap.size + 1, 1, none⟩ = some (.int .i64 b2) := by rw [cell_of_row _ _ _ _ _ _ r1]; rfl
  have d2 : W.cell? ⟨w.heap.size + 1, 2, none⟩ = some (.string b3) := by rw [cell_of_row _ _ _ _ _ _ r1]; rfl
  have hk1 := Lib.hid (Tryz.cmp_Compare_int a1 b1)
  have hk2 := Lib.hid (Tryz.cmp_Compare_int a2 b2)
  have hk3 := Lib.hid (Tryz.strings_Compare a3 b3)
  obtain ⟨x, hx⟩ : ∃ x, x = Lib.compareInt a1 b1 := ⟨_, rfl⟩
  obtain ⟨y, hy⟩ : ∃ x, x = Lib.compareInt a2 b2 := ⟨_, rfl⟩
  obtain ⟨z, hz⟩ : ∃ x, x = Lib.compareBytes a3.data.toList b3.data.toList := ⟨_, rfl⟩
  rw [← hx] at hk1
  rw [← hy] at hk2
  rw [← hz] at hk3
  have hor : Hid (orL [x, y, z] = cmpK (a1, a2, a3) (b1, b2, b3)) := by show _ = _; rw [hx, hy, hz]; rfl
  have hW' := Lib.hid hW
  clear hx hy hz r0 r1 hW
  go_enter Tryz.func63, Tryz.ntmps63
  go_wp2_with fail
  rw [← hW'.out]
  refine wp_region_still_tail 15 (by kernel_rfl) (by kernel_rfl) ?_
  simp only [List.take_succ_cons, List.take_zero, List.drop_succ_cons, List.drop_zero]
  repeat still_step
  still_call (hk1.out _)
  repeat still_step
  still_call (hk2.out _)
  repeat still_step
  still_call (hk3.out _)
  repeat still_step
  refine wpStill_nil ?_
  change wpList _ _ _ _ _ W.drew
  obtain ⟨W8, hW8⟩ : ∃ W8, W8 = W.drew := ⟨_, rfl⟩
  rw [← hW8]
  have hW8' := Lib.hid hW8
  clear hW8 c0 c1 c2 d0 d1 d2
  go_wp2_with (go_at_call 85; fail)
  have hsi : SliceInt (W8.alloc (.cells #[.int .i64 x, .int .i64 y, .int .i64 z] 3)) (.slice (some ⟨W8.heap.size, 0, none⟩) 3 3) [x, y, z] := by
    refine Or.inr ⟨W8.heap.size, 0, 3, rfl, ⟨by decide, Nat.le_refl 3⟩, by simp, fun k hk => ?_⟩
    rw [cell_of_row _ _ _ _ _ _ (heap_alloc_new W8 _), Nat.zero_add]
    rcases k with _ | _ | _ | k
    · rfl
    · rfl
    · rfl
    · simp at hk; omega
  refine (or_any _ [x, y, z] _ hsi).mono ?_
  rintro e w9 ⟨rfl, hw9⟩
  obtain rfl := hw9.symm
  rw [hor.out]
  clear hsi
  go_wp2_with fail
  go_ret
  refine ⟨rfl, 1, #[.cells #[.int .i64 a1, .int .i64 a2, .string a3] 64, .cells #[.int .i64 b1, .int .i64 b2, .string b3] 64, .cells #[.int .i64 x, .int .i64 y, .int .i64 z] 3], ?_⟩
  rw [hW8'.out, hW'.out]
  exact grow_three w _ _ _
end Go.Proofs.YtlemadbmlnjhpaaGreatDoor
