/- The examples of the document hold (overview's known). -/
import Derived.Test.YtnniijnfkbkdcaaGreatDoorO9
import Derived.Test.YtnniijnfkbkdcaaGreatDoorRepShelf
namespace Go.Proofs.YtnniijnfkbkdcaaGreatDoor
open Go Go.RowKit Go.Proofs
set_option linter.unusedSimpArgs false
set_option linter.unusedVariables false

def id0 : List UInt8 := List.replicate 32 0
def tail7 : List UInt8 := [9, 65, 110, 110, 9, 48, 9, 82, 101, 58, 32, 116, 101, 97, 9, 9, 49, 50, 48]
theorem Tryz.build_ann (w : World) : (Instr.build 44 #[(0, .int .i64 7), (2, .string ⟨#[65, 110, 110]⟩), (4, .string ⟨#[82, 101, 58, 32, 116, 101, 97]⟩), (6, .int .i64 120)]).run Tryz.prog w = .ok (.agg (.int .i64 7 :: .int .u8 0 :: .int .u8 0 :: .int .u8 0 :: .int .u8 0 :: .int .u8 0 :: .int .u8 0 :: .int .u8 0 :: .int .u8 0 :: .int .u8 0 :: .int .u8 0 :: .int .u8 0 :: .int .u8 0 :: .int .u8 0 :: .int .u8 0 :: .int .u8 0 :: .int .u8 0 :: .int .u8 0 :: .int .u8 0 :: .int .u8 0 :: .int .u8 0 :: .int .u8 0 :: .int .u8 0 :: .int .u8 0 :: .int .u8 0 :: .int .u8 0 :: .int .u8 0 :: .int .u8 0 :: .int .u8 0 :: .int .u8 0 :: .int .u8 0 :: .int .u8 0 :: .int .u8 0 :: .string ⟨#[65, 110, 110]⟩ :: .int .i64 0 :: .string ⟨#[82, 101, 58, 32, 116, 101, 97]⟩ :: .slice none 0 0 :: .int .i64 120 :: []).toArray) w := by kernel_rfl
theorem Tryz.build_three (w : World) : (Instr.build 44 #[(0, .int .i64 3)]).run Tryz.prog w = .ok (.agg (.int .i64 3 :: .int .u8 0 :: .int .u8 0 :: .int .u8 0 :: .int .u8 0 :: .int .u8 0 :: .int .u8 0 :: .int .u8 0 :: .int .u8 0 :: .int .u8 0 :: .int .u8 0 :: .int .u8 0 :: .int .u8 0 :: .int .u8 0 :: .int .u8 0 :: .int .u8 0 :: .int .u8 0 :: .int .u8 0 :: .int .u8 0 :: .int .u8 0 :: .int .u8 0 :: .int .u8 0 :: .int .u8 0 :: .int .u8 0 :: .int .u8 0 :: .int .u8 0 :: .int .u8 0 :: .int .u8 0 :: .int .u8 0 :: .int .u8 0 :: .int .u8 0 :: .int .u8 0 :: .int .u8 0 :: .string ⟨#[]⟩ :: .int .i64 0 :: .string ⟨#[]⟩ :: .slice none 0 0 :: .int .i64 0 :: []).toArray) w := by kernel_rfl
theorem zeros_id0 : (.int .u8 0 :: .int .u8 0 :: .int .u8 0 :: .int .u8 0 :: .int .u8 0 :: .int .u8 0 :: .int .u8 0 :: .int .u8 0 :: .int .u8 0 :: .int .u8 0 :: .int .u8 0 :: .int .u8 0 :: .int .u8 0 :: .int .u8 0 :: .int .u8 0 :: .int .u8 0 :: .int .u8 0 :: .int .u8 0 :: .int .u8 0 :: .int .u8 0 :: .int .u8 0 :: .int .u8 0 :: .int .u8 0 :: .int .u8 0 :: .int .u8 0 :: .int .u8 0 :: .int .u8 0 :: .int .u8 0 :: .int .u8 0 :: .int .u8 0 :: .int .u8 0 :: .int .u8 0 :: [] : List Value) = byteVals id0 := by rfl
theorem ann_ok : firstErr (errs 7 ⟨#[65, 110, 110]⟩ 0 ⟨#[82, 101, 58, 32, 116, 101, 97]⟩ 0 120) = 0 := by kernel_rfl
theorem three_ok : firstErr (errs 3 ⟨#[]⟩ 0 ⟨#[]⟩ 0 0) = 0 := by kernel_rfl
theorem ann_text : lineText 7 id0 ⟨#[65, 110, 110]⟩ 0 ⟨#[82, 101, 58, 32, 116, 101, 97]⟩ [] 120 = (55 :: 9 :: List.replicate 64 48) ++ tail7 := by kernel_rfl
theorem ab_ok : gErr ⟨#[97, 46, 98]⟩ = 0 := by kernel_rfl
theorem rep_text : Lib.repeatL [48] 64 = List.replicate 64 48 := by kernel_rfl
set_option maxHeartbeats 3200000 in
set_option maxRecDepth 100000 in
theorem known_any (w : World) (hT : Tab w) : Calls Tryz.prog 13 #[] w fun e w' => e = .returned (.bool true) ∧ Below w.heap.size w w' := by
  have hpr := print_none 7 (.int .u8 0) (.int .u8 0) (.int .u8 0) (.int .u8 0) (.int .u8 0) (.int .u8 0) (.int .u8 0) (.int .u8 0) (.int .u8 0) (.int .u8 0) (.int .u8 0) (.int .u8 0) (.int .u8 0) (.int .u8 0) (.int .u8 0) (.int .u8 0) (.int .u8 0) (.int .u8 0) (.int .u8 0) (.int .u8 0) (.int .u8 0) (.int .u8 0) (.int .u8 0) (.int .u8 0) (.int .u8 0) (.int .u8 0) (.int .u8 0) (.int .u8 0) (.int .u8 0) (.int .u8 0) (.int .u8 0) (.int .u8 0) id0 zeros_id0 ⟨#[65, 110, 110]⟩ 0 ⟨#[82, 101, 58, 32, 116, 101, 97]⟩ 120 w hT ann_ok
  obtain ⟨J, hJ⟩ : ∃ J, J = (55 :: 9 :: List.replicate 64 48) ++ tail7 := ⟨_, rfl⟩
  rw [ann_text, ← hJ] at hpr
  obtain ⟨R, hR⟩ : ∃ R : List UInt8, R = List.replicate 64 48 := ⟨_, rfl⟩
  have hRl : R.length = 64 := by rw [hR, List.length_replicate]
  have hrep := fun W => Tryz.strings_Repeat ⟨#[48]⟩ 64 W (by omega) (by decide)
  have e48 : (⟨#[48]⟩ : ByteArray).data.toList = [48] := rfl
  simp only [e48, rep_text, ← hR] at hrep
  have ha1 : ∀ W, (Op.stringOp .add ⟨#[55, 9]⟩ ⟨R.toArray⟩).run Tryz.prog W = .ok (.string ⟨(55 :: 9 :: R).toArray⟩) W := fun W => run_string_add_lists W [55, 9] R (by simp) (by omega)
  have ha2 : ∀ W, (Op.stringOp .add ⟨(55 :: 9 :: R).toArray⟩ ⟨#[9, 65, 110, 110, 9, 48, 9, 82, 101, 58, 32, 116, 101, 97, 9, 9, 49, 50, 48]⟩).run Tryz.prog W = .ok (.string ⟨J.toArray⟩) W := fun W => by
    rw [hJ, ← hR]; exact run_string_add_lists W (55 :: 9 :: R) tail7 (by simp; omega) (by decide)
  have hpr' := Lib.hid hpr
  have hrep' := Lib.hid hrep
  clear hpr hrep hJ hR hRl e48
  have hb7 := Tryz.build_ann
  have hb3 := Tryz.build_three
  go_enter Tryz.func13, Tryz.ntmps13
  go_wp2_with (go_at_call 44; fail)
  refine hpr'.out.mono ?_
  rintro e w1 ⟨rfl, hb1⟩
  have hb1' := Lib.hid hb1
  clear hb1
  go_wp2_with (go_at_call 15; fail)
  refine (new_any _).mono ?_
  rintro e w2 ⟨rfl, hx, hb⟩
  obtain ⟨p, hp⟩ : ∃ p, p = w1.heap.size := ⟨_, rfl⟩
  rw [← hp] at hx ⊢
  have hp0 : w.heap.size ≤ p := by rw [hp]; exact hb1'.out.size
  have hx2 := Lib.hid hx
  have hB2 := Lib.hid (hb1'.out.trans (hb.mono hb1'.out.size))
  clear hx hb hp
  go_wp2_with (go_at_call 51; fail)
  refine (hrep'.out _).mono ?_
  rintro e w3 ⟨rfl, hb⟩
  have hx3 := Lib.hid (hx2.out.below hb)
  have hB3 := Lib.hid (hB2.out.trans (hb.mono hB2.out.size))
  clear hb
  go_wp2_with (go_at_call 24; fail)
  refine (add_none (p + 1) p [] 0 ⟨#[97, 46, 98]⟩ 3 (.int .u8 0) (.int .u8 0) (.int .u8 0) (.int .u8 0) (.int .u8 0) (.int .u8 0) (.int .u8 0) (.int .u8 0) (.int .u8 0) (.int .u8 0) (.int .u8 0) (.int .u8 0) (.int .u8 0) (.int .u8 0) (.int .u8 0) (.int .u8 0) (.int .u8 0) (.int .u8 0) (.int .u8 0) (.int .u8 0) (.int .u8 0) (.int .u8 0) (.int .u8 0) (.int .u8 0) (.int .u8 0) (.int .u8 0) (.int .u8 0) (.int .u8 0) (.int .u8 0) (.int .u8 0) (.int .u8 0) (.int .u8 0) ⟨#[]⟩ 0 ⟨#[]⟩ 0 _ hx3.out rfl ab_ok (by decide) three_ok (bytes_one zeros_id0) (by omega)).mono ?_
  rintro e w4 ⟨rfl, gb, k, hx, h1, h2, h3, h4, h5⟩
  have hB4 : Below w.heap.size w w4 := hB3.out.trans ⟨h1, h2, h3, h4, fun j hj => h5 j (by have := hB3.out.size; omega) (by omega) (by omega)⟩
  have hgl : getL ⟨#[97, 46, 98]⟩ (putL ⟨#[97, 46, 98]⟩ (.slice (some ⟨gb, 0, none⟩) 1 k) []) = .slice (some ⟨gb, 0, none⟩) 1 k := by rfl
  have hx4 := Lib.hid hx
  have hB4' := Lib.hid hB4
  clear hx h1 h2 h3 h4 h5 hB4
  go_wp2_with (go_at_call 42; fail)
  refine (len_at (p + 1) p _ _ ⟨#[97, 46, 98]⟩ _ 1 k _ hx4.out hgl).mono ?_
  rintro e w5 ⟨rfl, rfl⟩
  clear hgl
  go_wp2_with fail
  go_ret
  exact ⟨ret_bool (by simp), hB4'.out⟩
end Go.Proofs.YtnniijnfkbkdcaaGreatDoor
