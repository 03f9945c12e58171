/- The contract of the reference's Author (layer 17). -/
import Derived.Test.YtlemadbmlnjhpaaGreatDoorK7
namespace Go.Proofs.YtlemadbmlnjhpaaGreatDoor
open Go Go.RowKit Go.Proofs
set_option linter.unusedSimpArgs false
set_option linter.unusedVariables false

def hexDigits : ByteArray := ⟨#[48, 49, 50, 51, 52, 53, 54, 55, 56, 57, 97, 98, 99, 100, 101, 102]⟩
theorem mkS_size (l : List UInt8) : (mkS l).size = l.length := by rw [Lib.size_eq, mkS_toList]
theorem hexL_succ {au : List UInt8} {k : Nat} {c : UInt8} (h : au[k]? = some c) : hexL (au.take (k + 1)) = hexL (au.take k) ++ [hexd (c.toNat / 16), hexd (c.toNat % 16)] := by
  obtain ⟨hk1, hk2⟩ := List.getElem?_eq_some_iff.1 h
  rw [List.take_succ_eq_append_getElem hk1, hexL_snoc, hk2]
theorem Tryz.sliceHexd (q : Nat) (hq : q < 16) (W : World) : (Instr.slice 9 (.string ⟨#[48, 49, 50, 51, 52, 53, 54, 55, 56, 57, 97, 98, 99, 100, 101, 102]⟩) (some (.int .u8 (q : Int))) (some (.int .u8 ((q + 1 : Nat) : Int))) none).run Tryz.prog W = .ok (.string (mkS [hexd q])) W :=
  match q, hq with
  | 0, _ => by kernel_rfl
  | 1, _ => by kernel_rfl
  | 2, _ => by kernel_rfl
  | 3, _ => by kernel_rfl
  | 4, _ => by kernel_rfl
  | 5, _ => by kernel_rfl
  | 6, _ => by kernel_rfl
  | 7, _ => by kernel_rfl
  | 8, _ => by kernel_rfl
  | 9, _ => by kernel_rfl
  | 10, _ => by kernel_rfl
  | 11, _ => by kernel_rfl
  | 12, _ => by kernel_rfl
  | 13, _ => by kernel_rfl
  | 14, _ => by kernel_rfl
  | 15, _ => by kernel_rfl
  | q + 16, h => absurd h (by omega)

set_option maxHeartbeats 1600000 in
set_option maxRecDepth 100000 in
theorem refauthor_lit (v0 v1 v2 v3 v4 v5 v6 v7 v8 v9 v10 v11 v12 v13 v14 v15 : Value) (au : List UInt8) (hau : [v0, v1, v2, v3, v4, v5, v6, v7, v8, v9, v10, v11, v12, v13, v14, v15] = byteVals au) (w : World) :
    Calls Tryz.prog 29 #[.agg #[v0, v1, v2, v3, v4, v5, v6, v7, v8, v9, v10, v11, v12, v13, v14, v15]] w fun e w' => e = .returned (.string (auText au)) ∧ Below w.heap.size w w' := by
  have hl : au.length = 16 := by have := congrArg List.length hau; simpa [byteVals] using this.symm
  have hcs : ∀ k c, au[k]? = some c → ∀ W, Below (w.heap.size + 1) (w.alloc (.cells #[v0, v1, v2, v3, v4, v5, v6, v7, v8, v9, v10, v11, v12, v13, v14, v15] 23)) W → W.cell? ⟨w.heap.size, k, none⟩ = some (.int .u8 (c.toNat : Int)) := fun k c hc W hW => by
    rw [hW.cell (p := ⟨w.heap.size, k, none⟩) (by simp), cell_of_row _ w.heap.size k _ _ _ (heap_alloc_new w _)]
    rw [List.getElem?_toArray, hau, byteVals, List.getElem?_map, hc]; rfl
  have hau' := Lib.hid hau
  have hl' := Lib.hid hl
  have hcs' := Lib.hid hcs
  clear hau hl hcs
  go_enter Tryz.func29, Tryz.ntmps29
  go_wp2_with fail
  go_loopw [4, 5] (fun s i wr => ∃ k : Nat, k ≤ 16 ∧ i = .int .i64 k ∧ s = .string (mkS (hexL (au.take k))) ∧ Below (w.heap.size + 1) (w.alloc (.cells #[v0, v1, v2, v3, v4, v5, v6, v7, v8, v9, v10, v11, v12, v13, v14, v15] 23)) wr) (fun _ i _ => 16 - (intOf i).toNat)
  case atStart => exact ⟨0, by omega, rfl, rfl, Below.refl _ _⟩
  case round =>
    obtain ⟨k, hk0, rfl, rfl, hbel⟩ := hrel
    have hbel' := Lib.hid hbel
    clear hbel
    obtain ⟨acc, hacc⟩ : ∃ s, s = mkS (hexL (au.take k)) := ⟨_, rfl⟩
    rw [← hacc]
    have hacc' := Lib.hid hacc
    clear hacc
    by_cases hk : k < 16
    · obtain ⟨c, hc⟩ : ∃ c, au[k]? = some c := ⟨au[k]'(by rw [hl'.out]; exact hk), List.getElem?_eq_getElem _⟩
      have hcell := hcs'.out k c hc wr hbel'.out
      have hc' := Lib.hid hc
      clear hc
      have hc256 : c.toNat < 256 := c.toNat_lt
      have b1 : (0 : Int) ≤ (c.toNat : Int) / 16 := by omega
      have b2 : (c.toNat : Int) / 16 < 16 := by omega
      have b3 : (0 : Int) ≤ (c.toNat : Int) % 16 := by omega
      have b4 : (c.toNat : Int) % 16 < 16 := by omega
      obtain ⟨y1, hy1⟩ : ∃ y, y = mkS [hexd (c.toNat / 16)] := ⟨_, rfl⟩
      obtain ⟨y2, hy2⟩ : ∃ y, y = mkS [hexd (c.toNat % 16)] := ⟨_, rfl⟩
      have s1 : ∀ W, (Instr.slice 9 (.string ⟨#[48, 49, 50, 51, 52, 53, 54, 55, 56, 57, 97, 98, 99, 100, 101, 102]⟩) (some (.int .u8 ((c.toNat : Int) / 16))) (some (.int .u8 ((c.toNat : Int) / 16 + 1))) none).run Tryz.prog W = .ok (.string y1) W := fun W => by
        rw [show ((c.toNat : Int) / 16) = ((c.toNat / 16 : Nat) : Int) from by omega, show (((c.toNat / 16 : Nat) : Int) + 1) = ((c.toNat / 16 + 1 : Nat) : Int) from by omega, hy1]
        exact Tryz.sliceHexd _ (by omega) W
      have s2 : ∀ W, (Instr.slice 9 (.string ⟨#[48, 49, 50, 51, 52, 53, 54, 55, 56, 57, 97, 98, 99, 100, 101, 102]⟩) (some (.int .u8 ((c.toNat : Int) % 16))) (some (.int .u8 ((c.toNat : Int) % 16 + 1))) none).run Tryz.prog W = .ok (.string y2) W := fun W => by
        rw [show ((c.toNat : Int) % 16) = ((c.toNat % 16 : Nat) : Int) from by omega, show (((c.toNat % 16 : Nat) : Int) + 1) = ((c.toNat % 16 + 1 : Nat) : Int) from by omega, hy2]
        exact Tryz.sliceHexd _ (by omega) W
      have z0 : acc.size ≤ 32 := by rw [hacc'.out, mkS_size, hexL_length]; have := List.length_take_le k au; omega
      have z1 : y1.size ≤ 1 := by rw [hy1, mkS_size]; exact Nat.le_refl _
      have z2 : y2.size ≤ 1 := by rw [hy2, mkS_size]; exact Nat.le_refl _
      have hy1' := Lib.hid hy1
      have hy2' := Lib.hid hy2
      clear hy1 hy2
      go_wp2_with fail
      go_quiet (fail)
      go_wp2_with fail
      refine ⟨⟨k + 1, by omega, by go_num, ?_, below_drewN' hbel'.out _⟩, by simp [intOf]; omega⟩
      rw [hacc'.out, hy1'.out, hy2'.out, ← mkS_append, ← mkS_append, hexL_succ hc'.out]
      simp
    · obtain rfl : k = 16 := by omega
      go_wp2_with fail
      go_ret
      have e16 : au.take 16 = au := List.take_of_length_le (by rw [hl'.out]; exact Nat.le_refl _)
      exact ⟨by rw [hacc'.out, e16]; rfl, ((Below.refl _ w).alloc (Nat.le_refl _) _).trans (hbel'.out.mono (by omega))⟩
end Go.Proofs.YtlemadbmlnjhpaaGreatDoor
