/- The text of an identity (overview's hex). -/
import Derived.Test.YtnniijnfkbkdcaaGreatDoorO1
import Derived.Shelf.Strings.BuilderK
import Derived.Lib.OthersKept
namespace Go.Proofs.YtnniijnfkbkdcaaGreatDoor
open Go Go.RowKit Go.Proofs
set_option linter.unusedSimpArgs false
set_option linter.unusedVariables false

def hexd (n : Nat) : UInt8 := UInt8.ofNat (if n < 10 then 48 + n else 87 + n)
def hexL (l : List UInt8) : List UInt8 := l.flatMap fun c => [hexd (c.toNat / 16), hexd (c.toNat % 16)]
theorem hexL_snoc (l : List UInt8) (c : UInt8) : hexL (l ++ [c]) = hexL l ++ [hexd (c.toNat / 16), hexd (c.toNat % 16)] := by simp [hexL]
theorem hexL_length (l : List UInt8) : (hexL l).length = 2 * l.length := by
  induction l with
  | nil => rfl
  | cons a l ih => simp only [hexL, List.flatMap_cons, List.length_append, List.length_cons, List.length_nil] at *; omega
theorem and15 (c : Nat) (h : c < 256) : bits .and .u8 (c : Int) 15 = ((c % 16 : Nat) : Int) := by
  rw [show (15 : Int) = ((15 : Nat) : Int) from rfl, u8_and_nat c 15 h (by decide)]
  congr 1
  exact Nat.and_two_pow_sub_one_eq_mod c 4
def hexS : Value := .string ⟨#[48, 49, 50, 51, 52, 53, 54, 55, 56, 57, 97, 98, 99, 100, 101, 102]⟩
theorem Tryz.idxHexd (q : Nat) (hq : q < 16) (w : World) : (Instr.index 9 (.string ⟨#[48, 49, 50, 51, 52, 53, 54, 55, 56, 57, 97, 98, 99, 100, 101, 102]⟩) (.int .u8 (q : Int))).run Tryz.prog w = .ok (.int .u8 ((hexd q).toNat : Int)) w :=
  match q, hq with
  | 0, _ => by kernel_rfl
  | 1, _ => by kernel_rfl
  | 2, _ => by kernel_rfl
  | 3, _ => by kernel_rfl
  | 4, _ => by kernel_rfl
  | 5, _ => by kernel_rfl
  | 6, _ => by kernel_rfl
  | 7, _ => by kernel_rfl
  | 8, _ => by kernel_rfl
  | 9, _ => by kernel_rfl
  | 10, _ => by kernel_rfl
  | 11, _ => by kernel_rfl
  | 12, _ => by kernel_rfl
  | 13, _ => by kernel_rfl
  | 14, _ => by kernel_rfl
  | 15, _ => by kernel_rfl
  | q + 16, h => absurd h (by omega)
theorem Tryz.idxId0 (i1 i2 i3 i4 i5 i6 i7 i8 i9 i10 i11 i12 i13 i14 i15 i16 i17 i18 i19 i20 i21 i22 i23 i24 i25 i26 i27 i28 i29 i30 i31 i32 : Value) (w : World) : (Instr.index 31 (.agg (i1 :: i2 :: i3 :: i4 :: i5 :: i6 :: i7 :: i8 :: i9 :: i10 :: i11 :: i12 :: i13 :: i14 :: i15 :: i16 :: i17 :: i18 :: i19 :: i20 :: i21 :: i22 :: i23 :: i24 :: i25 :: i26 :: i27 :: i28 :: i29 :: i30 :: i31 :: i32 :: []).toArray) (.int .i64 ((0 : Nat) : Int))).run Tryz.prog w = .ok i1 w := by kernel_rfl
theorem Tryz.idxId1 (i1 i2 i3 i4 i5 i6 i7 i8 i9 i10 i11 i12 i13 i14 i15 i16 i17 i18 i19 i20 i21 i22 i23 i24 i25 i26 i27 i28 i29 i30 i31 i32 : Value) (w : World) : (Instr.index 31 (.agg (i1 :: i2 :: i3 :: i4 :: i5 :: i6 :: i7 :: i8 :: i9 :: i10 :: i11 :: i12 :: i13 :: i14 :: i15 :: i16 :: i17 :: i18 :: i19 :: i20 :: i21 :: i22 :: i23 :: i24 :: i25 :: i26 :: i27 :: i28 :: i29 :: i30 :: i31 :: i32 :: []).toArray) (.int .i64 ((1 : Nat) : Int))).run Tryz.prog w = .ok i2 w := by kernel_rfl
theorem Tryz.idxId2 (i1 i2 i3 i4 i5 i6 i7 i8 i9 i10 i11 i12 i13 i14 i15 i16 i17 i18 i19 i20 i21 i22 i23 i24 i25 i26 i27 i28 i29 i30 i31 i32 : Value) (w : World) : (Instr.index 31 (.agg (i1 :: i2 :: i3 :: i4 :: i5 :: i6 :: i7 :: i8 :: i9 :: i10 :: i11 :: i12 :: i13 :: i14 :: i15 :: i16 :: i17 :: i18 :: i19 :: i20 :: i21 :: i22 :: i23 :: i24 :: i25 :: i26 :: i27 :: i28 :: i29 :: i30 :: i31 :: i32 :: []).toArray) (.int .i64 ((2 : Nat) : Int))).run Tryz.prog w = .ok i3 w := by kernel_rfl
theorem Tryz.idxId3 (i1 i2 i3 i4 i5 i6 i7 i8 i9 i10 i11 i12 i13 i14 i15 i16 i17 i18 i19 i20 i21 i22 i23 i24 i25 i26 i27 i28 i29 i30 i31 i32 : Value) (w : World) : (Instr.index 31 (.agg (i1 :: i2 :: i3 :: i4 :: i5 :: i6 :: i7 :: i8 :: i9 :: i10 :: i11 :: i12 :: i13 :: i14 :: i15 :: i16 :: i17 :: i18 :: i19 :: i20 :: i21 :: i22 :: i23 :: i24 :: i25 :: i26 :: i27 :: i28 :: i29 :: i30 :: i31 :: i32 :: []).toArray) (.int .i64 ((3 : Nat) : Int))).run Tryz.prog w = .ok i4 w := by kernel_rfl
theorem Tryz.idxId4 (i1 i2 i3 i4 i5 i6 i7 i8 i9 i10 i11 i12 i13 i14 i15 i16 i17 i18 i19 i20 i21 i22 i23 i24 i25 i26 i27 i28 i29 i30 i31 i32 : Value) (w : World) : (Instr.index 31 (.agg (i1 :: i2 :: i3 :: i4 :: i5 :: i6 :: i7 :: i8 :: i9 :: i10 :: i11 :: i12 :: i13 :: i14 :: i15 :: i16 :: i17 :: i18 :: i19 :: i20 :: i21 :: i22 :: i23 :: i24 :: i25 :: i26 :: i27 :: i28 :: i29 :: i30 :: i31 :: i32 :: []).toArray) (.int .i64 ((4 : Nat) : Int))).run Tryz.prog w = .ok i5 w := by kernel_rfl
theorem Tryz.idxId5 (i1 i2 i3 i4 i5 i6 i7 i8 i9 i10 i11 i12 i13 i14 i15 i16 i17 i18 i19 i20 i21 i22 i23 i24 i25 i26 i27 i28 i29 i30 i31 i32 : Value) (w : World) : (Instr.index 31 (.agg (i1 :: i2 :: i3 :: i4 :: i5 :: i6 :: i7 :: i8 :: i9 :: i10 :: i11 :: i12 :: i13 :: i14 :: i15 :: i16 :: i17 :: i18 :: i19 :: i20 :: i21 :: i22 :: i23 :: i24 :: i25 :: i26 :: i27 :: i28 :: i29 :: i30 :: i31 :: i32 :: []).toArray) (.int .i64 ((5 : Nat) : Int))).run Tryz.prog w = .ok i6 w := by kernel_rfl
theorem Tryz.idxId6 (i1 i2 i3 i4 i5 i6 i7 i8 i9 i10 i11 i12 i13 i14 i15 i16 i17 i18 i19 i20 i21 i22 i23 i24 i25 i26 i27 i28 i29 i30 i31 i32 : Value) (w : World) : (Instr.index 31 (.agg (i1 :: i2 :: i3 :: i4 :: i5 :: i6 :: i7 :: i8 :: i9 :: i10 :: i11 :: i12 :: i13 :: i14 :: i15 :: i16 :: i17 :: i18 :: i19 :: i20 :: i21 :: i22 :: i23 :: i24 :: i25 :: i26 :: i27 :: i28 :: i29 :: i30 :: i31 :: i32 :: []).toArray) (.int .i64 ((6 : Nat) : Int))).run Tryz.prog w = .ok i7 w := by kernel_rfl
theorem Tryz.idxId7 (i1 i2 i3 i4 i5 i6 i7 i8 i9 i10 i11 i12 i13 i14 i15 i16 i17 i18 i19 i20 i21 i22 i23 i24 i25 i26 i27 i28 i29 i30 i31 i32 : Value) (w : World) : (Instr.index 31 (.agg (i1 :: i2 :: i3 :: i4 :: i5 :: i6 :: i7 :: i8 :: i9 :: i10 :: i11 :: i12 :: i13 :: i14 :: i15 :: i16 :: i17 :: i18 :: i19 :: i20 :: i21 :: i22 :: i23 :: i24 :: i25 :: i26 :: i27 :: i28 :: i29 :: i30 :: i31 :: i32 :: []).toArray) (.int .i64 ((7 : Nat) : Int))).run Tryz.prog w = .ok i8 w := by kernel_rfl
theorem Tryz.idxId8 (i1 i2 i3 i4 i5 i6 i7 i8 i9 i10 i11 i12 i13 i14 i15 i16 i17 i18 i19 i20 i21 i22 i23 i24 i25 i26 i27 i28 i29 i30 i31 i32 : Value) (w : World) : (Instr.index 31 (.agg (i1 :: i2 :: i3 :: i4 :: i5 :: i6 :: i7 :: i8 :: i9 :: i10 :: i11 :: i12 :: i13 :: i14 :: i15 :: i16 :: i17 :: i18 :: i19 :: i20 :: i21 :: i22 :: i23 :: i24 :: i25 :: i26 :: i27 :: i28 :: i29 :: i30 :: i31 :: i32 :: []).toArray) (.int .i64 ((8 : Nat) : Int))).run Tryz.prog w = .ok i9 w := by kernel_rfl
theorem Tryz.idxId9 (i1 i2 i3 i4 i5 i6 i7 i8 i9 i10 i11 i12 i13 i14 i15 i16 i17 i18 i19 i20 i21 i22 i23 i24 i25 i26 i27 i28 i29 i30 i31 i32 : Value) (w : World) : (Instr.index 31 (.agg (i1 :: i2 :: i3 :: i4 :: i5 :: i6 :: i7 :: i8 :: i9 :: i10 :: i11 :: i12 :: i13 :: i14 :: i15 :: i16 :: i17 :: i18 :: i19 :: i20 :: i21 :: i22 :: i23 :: i24 :: i25 :: i26 :: i27 :: i28 :: i29 :: i30 :: i31 :: i32 :: []).toArray) (.int .i64 ((9 : Nat) : Int))).run Tryz.prog w = .ok i10 w := by kernel_rfl
theorem Tryz.idxId10 (i1 i2 i3 i4 i5 i6 i7 i8 i9 i10 i11 i12 i13 i14 i15 i16 i17 i18 i19 i20 i21 i22 i23 i24 i25 i26 i27 i28 i29 i30 i31 i32 : Value) (w : World) : (Instr.index 31 (.agg (i1 :: i2 :: i3 :: i4 :: i5 :: i6 :: i7 :: i8 :: i9 :: i10 :: i11 :: i12 :: i13 :: i14 :: i15 :: i16 :: i17 :: i18 :: i19 :: i20 :: i21 :: i22 :: i23 :: i24 :: i25 :: i26 :: i27 :: i28 :: i29 :: i30 :: i31 :: i32 :: []).toArray) (.int .i64 ((10 : Nat) : Int))).run Tryz.prog w = .ok i11 w := by kernel_rfl
theorem Tryz.idxId11 (i1 i2 i3 i4 i5 i6 i7 i8 i9 i10 i11 i12 i13 i14 i15 i16 i17 i18 i19 i20 i21 i22 i23 i24 i25 i26 i27 i28 i29 i30 i31 i32 : Value) (w : World) : (Instr.index 31 (.agg (i1 :: i2 :: i3 :: i4 :: i5 :: i6 :: i7 :: i8 :: i9 :: i10 :: i11 :: i12 :: i13 :: i14 :: i15 :: i16 :: i17 :: i18 :: i19 :: i20 :: i21 :: i22 :: i23 :: i24 :: i25 :: i26 :: i27 :: i28 :: i29 :: i30 :: i31 :: i32 :: []).toArray) (.int .i64 ((11 : Nat) : Int))).run Tryz.prog w = .ok i12 w := by kernel_rfl
theorem Tryz.idxId12 (i1 i2 i3 i4 i5 i6 i7 i8 i9 i10 i11 i12 i13 i14 i15 i16 i17 i18 i19 i20 i21 i22 i23 i24 i25 i26 i27 i28 i29 i30 i31 i32 : Value) (w : World) : (Instr.index 31 (.agg (i1 :: i2 :: i3 :: i4 :: i5 :: i6 :: i7 :: i8 :: i9 :: i10 :: i11 :: i12 :: i13 :: i14 :: i15 :: i16 :: i17 :: i18 :: i19 :: i20 :: i21 :: i22 :: i23 :: i24 :: i25 :: i26 :: i27 :: i28 :: i29 :: i30 :: i31 :: i32 :: []).toArray) (.int .i64 ((12 : Nat) : Int))).run Tryz.prog w = .ok i13 w := by kernel_rfl
theorem Tryz.idxId13 (i1 i2 i3 i4 i5 i6 i7 i8 i9 i10 i11 i12 i13 i14 i15 i16 i17 i18 i19 i20 i21 i22 i23 i24 i25 i26 i27 i28 i29 i30 i31 i32 : Value) (w : World) : (Instr.index 31 (.agg (i1 :: i2 :: i3 :: i4 :: i5 :: i6 :: i7 :: i8 :: i9 :: i10 :: i11 :: i12 :: i13 :: i14 :: i15 :: i16 :: i17 :: i18 :: i19 :: i20 :: i21 :: i22 :: i23 :: i24 :: i25 :: i26 :: i27 :: i28 :: i29 :: i30 :: i31 :: i32 :: []).toArray) (.int .i64 ((13 : Nat) : Int))).run Tryz.prog w = .ok i14 w := by kernel_rfl
theorem Tryz.idxId14 (i1 i2 i3 i4 i5 i6 i7 i8 i9 i10 i11 i12 i13 i14 i15 i16 i17 i18 i19 i20 i21 i22 i23 i24 i25 i26 i27 i28 i29 i30 i31 i32 : Value) (w : World) : (Instr.index 31 (.agg (i1 :: i2 :: i3 :: i4 :: i5 :: i6 :: i7 :: i8 :: i9 :: i10 :: i11 :: i12 :: i13 :: i14 :: i15 :: i16 :: i17 :: i18 :: i19 :: i20 :: i21 :: i22 :: i23 :: i24 :: i25 :: i26 :: i27 :: i28 :: i29 :: i30 :: i31 :: i32 :: []).toArray) (.int .i64 ((14 : Nat) : Int))).run Tryz.prog w = .ok i15 w := by kernel_rfl
theorem Tryz.idxId15 (i1 i2 i3 i4 i5 i6 i7 i8 i9 i10 i11 i12 i13 i14 i15 i16 i17 i18 i19 i20 i21 i22 i23 i24 i25 i26 i27 i28 i29 i30 i31 i32 : Value) (w : World) : (Instr.index 31 (.agg (i1 :: i2 :: i3 :: i4 :: i5 :: i6 :: i7 :: i8 :: i9 :: i10 :: i11 :: i12 :: i13 :: i14 :: i15 :: i16 :: i17 :: i18 :: i19 :: i20 :: i21 :: i22 :: i23 :: i24 :: i25 :: i26 :: i27 :: i28 :: i29 :: i30 :: i31 :: i32 :: []).toArray) (.int .i64 ((15 : Nat) : Int))).run Tryz.prog w = .ok i16 w := by kernel_rfl
theorem Tryz.idxId16 (i1 i2 i3 i4 i5 i6 i7 i8 i9 i10 i11 i12 i13 i14 i15 i16 i17 i18 i19 i20 i21 i22 i23 i24 i25 i26 i27 i28 i29 i30 i31 i32 : Value) (w : World) : (Instr.index 31 (.agg (i1 :: i2 :: i3 :: i4 :: i5 :: i6 :: i7 :: i8 :: i9 :: i10 :: i11 :: i12 :: i13 :: i14 :: i15 :: i16 :: i17 :: i18 :: i19 :: i20 :: i21 :: i22 :: i23 :: i24 :: i25 :: i26 :: i27 :: i28 :: i29 :: i30 :: i31 :: i32 :: []).toArray) (.int .i64 ((16 : Nat) : Int))).run Tryz.prog w = .ok i17 w := by kernel_rfl
theorem Tryz.idxId17 (i1 i2 i3 i4 i5 i6 i7 i8 i9 i10 i11 i12 i13 i14 i15 i16 i17 i18 i19 i20 i21 i22 i23 i24 i25 i26 i27 i28 i29 i30 i31 i32 : Value) (w : World) : (Instr.index 31 (.agg (i1 :: i2 :: i3 :: i4 :: i5 :: i6 :: i7 :: i8 :: i9 :: i10 :: i11 :: i12 :: i13 :: i14 :: i15 :: i16 :: i17 :: i18 :: i19 :: i20 :: i21 :: i22 :: i23 :: i24 :: i25 :: i26 :: i27 :: i28 :: i29 :: i30 :: i31 :: i32 :: []).toArray) (.int .i64 ((17 : Nat) : Int))).run Tryz.prog w = .ok i18 w := by kernel_rfl
theorem Tryz.idxId18 (i1 i2 i3 i4 i5 i6 i7 i8 i9 i10 i11 i12 i13 i14 i15 i16 i17 i18 i19 i20 i21 i22 i23 i24 i25 i26 i27 i28 i29 i30 i31 i32 : Value) (w : World) : (Instr.index 31 (.agg (i1 :: i2 :: i3 :: i4 :: i5 :: i6 :: i7 :: i8 :: i9 :: i10 :: i11 :: i12 :: i13 :: i14 :: i15 :: i16 :: i17 :: i18 :: i19 :: i20 :: i21 :: i22 :: i23 :: i24 :: i25 :: i26 :: i27 :: i28 :: i29 :: i30 :: i31 :: i32 :: []).toArray) (.int .i64 ((18 : Nat) : Int))).run Tryz.prog w = .ok i19 w := by kernel_rfl
theorem Tryz.idxId19 (i1 i2 i3 i4 i5 i6 i7 i8 i9 i10 i11 i12 i13 i14 i15 i16 i17 i18 i19 i20 i21 i22 i23 i24 i25 i26 i27 i28 i29 i30 i31 i32 : Value) (w : World) : (Instr.index 31 (.agg (i1 :: i2 :: i3 :: i4 :: i5 :: i6 :: i7 :: i8 :: i9 :: i10 :: i11 :: i12 :: i13 :: i14 :: i15 :: i16 :: i17 :: i18 :: i19 :: i20 :: i21 :: i22 :: i23 :: i24 :: i25 :: i26 :: i27 :: i28 :: i29 :: i30 :: i31 :: i32 :: []).toArray) (.int .i64 ((19 : Nat) : Int))).run Tryz.prog w = .ok i20 w := by kernel_rfl
theorem Tryz.idxId20 (i1 i2 i3 i4 i5 i6 i7 i8 i9 i10 i11 i12 i13 i14 i15 i16 i17 i18 i19 i20 i21 i22 i23 i24 i25 i26 i27 i28 i29 i30 i31 i32 : Value) (w : World) : (Instr.index 31 (.agg (i1 :: i2 :: i3 :: i4 :: i5 :: i6 :: i7 :: i8 :: i9 :: i10 :: i11 :: i12 :: i13 :: i14 :: i15 :: i16 :: i17 :: i18 :: i19 :: i20 :: i21 :: i22 :: i23 :: i24 :: i25 :: i26 :: i27 :: i28 :: i29 :: i30 :: i31 :: i32 :: []).toArray) (.int .i64 ((20 : Nat) : Int))).run Tryz.prog w = .ok i21 w := by kernel_rfl
theorem Tryz.idxId21 (i1 i2 i3 i4 i5 i6 i7 i8 i9 i10 i11 i12 i13 i14 i15 i16 i17 i18 i19 i20 i21 i22 i23 i24 i25 i26 i27 i28 i29 i30 i31 i32 : Value) (w : World) : (Instr.index 31 (.agg (i1 :: i2 :: i3 :: i4 :: i5 :: i6 :: i7 :: i8 :: i9 :: i10 :: i11 :: i12 :: i13 :: i14 :: i15 :: i16 :: i17 :: i18 :: i19 :: i20 :: i21 :: i22 :: i23 :: i24 :: i25 :: i26 :: i27 :: i28 :: i29 :: i30 :: i31 :: i32 :: []).toArray) (.int .i64 ((21 : Nat) : Int))).run Tryz.prog w = .ok i22 w := by kernel_rfl
theorem Tryz.idxId22 (i1 i2 i3 i4 i5 i6 i7 i8 i9 i10 i11 i12 i13 i14 i15 i16 i17 i18 i19 i20 i21 i22 i23 i24 i25 i26 i27 i28 i29 i30 i31 i32 : Value) (w : World) : (Instr.index 31 (.agg (i1 :: i2 :: i3 :: i4 :: i5 :: i6 :: i7 :: i8 :: i9 :: i10 :: i11 :: i12 :: i13 :: i14 :: i15 :: i16 :: i17 :: i18 :: i19 :: i20 :: i21 :: i22 :: i23 :: i24 :: i25 :: i26 :: i27 :: i28 :: i29 :: i30 :: i31 :: i32 :: []).toArray) (.int .i64 ((22 : Nat) : Int))).run Tryz.prog w = .ok i23 w := by kernel_rfl
theorem Tryz.idxId23 (i1 i2 i3 i4 i5 i6 i7 i8 i9 i10 i11 i12 i13 i14 i15 i16 i17 i18 i19 i20 i21 i22 i23 i24 i25 i26 i27 i28 i29 i30 i31 i32 : Value) (w : World) : (Instr.index 31 (.agg (i1 :: i2 :: i3 :: i4 :: i5 :: i6 :: i7 :: i8 :: i9 :: i10 :: i11 :: i12 :: i13 :: i14 :: i15 :: i16 :: i17 :: i18 :: i19 :: i20 :: i21 :: i22 :: i23 :: i24 :: i25 :: i26 :: i27 :: i28 :: i29 :: i30 :: i31 :: i32 :: []).toArray) (.int .i64 ((23 : Nat) : Int))).run Tryz.prog w = .ok i24 w := by kernel_rfl
theorem Tryz.idxId24 (i1 i2 i3 i4 i5 i6 i7 i8 i9 i10 i11 i12 i13 i14 i15 i16 i17 i18 i19 i20 i21 i22 i23 i24 i25 i26 i27 i28 i29 i30 i31 i32 : Value) (w : World) : (Instr.index 31 (.agg (i1 :: i2 :: i3 :: i4 :: i5 :: i6 :: i7 :: i8 :: i9 :: i10 :: i11 :: i12 :: i13 :: i14 :: i15 :: i16 :: i17 :: i18 :: i19 :: i20 :: i21 :: i22 :: i23 :: i24 :: i25 :: i26 :: i27 :: i28 :: i29 :: i30 :: i31 :: i32 :: []).toArray) (.int .i64 ((24 : Nat) : Int))).run Tryz.prog w = .ok i25 w := by kernel_rfl
theorem Tryz.idxId25 (i1 i2 i3 i4 i5 i6 i7 i8 i9 i10 i11 i12 i13 i14 i15 i16 i17 i18 i19 i20 i21 i22 i23 i24 i25 i26 i27 i28 i29 i30 i31 i32 : Value) (w : World) : (Instr.index 31 (.agg (i1 :: i2 :: i3 :: i4 :: i5 :: i6 :: i7 :: i8 :: i9 :: i10 :: i11 :: i12 :: i13 :: i14 :: i15 :: i16 :: i17 :: i18 :: i19 :: i20 :: i21 :: i22 :: i23 :: i24 :: i25 :: i26 :: i27 :: i28 :: i29 :: i30 :: i31 :: i32 :: []).toArray) (.int .i64 ((25 : Nat) : Int))).run Tryz.prog w = .ok i26 w := by kernel_rfl
theorem Tryz.idxId26 (i1 i2 i3 i4 i5 i6 i7 i8 i9 i10 i11 i12 i13 i14 i15 i16 i17 i18 i19 i20 i21 i22 i23 i24 i25 i26 i27 i28 i29 i30 i31 i32 : Value) (w : World) : (Instr.index 31 (.agg (i1 :: i2 :: i3 :: i4 :: i5 :: i6 :: i7 :: i8 :: i9 :: i10 :: i11 :: i12 :: i13 :: i14 :: i15 :: i16 :: i17 :: i18 :: i19 :: i20 :: i21 :: i22 :: i23 :: i24 :: i25 :: i26 :: i27 :: i28 :: i29 :: i30 :: i31 :: i32 :: []).toArray) (.int .i64 ((26 : Nat) : Int))).run Tryz.prog w = .ok i27 w := by kernel_rfl
theorem Tryz.idxId27 (i1 i2 i3 i4 i5 i6 i7 i8 i9 i10 i11 i12 i13 i14 i15 i16 i17 i18 i19 i20 i21 i22 i23 i24 i25 i26 i27 i28 i29 i30 i31 i32 : Value) (w : World) : (Instr.index 31 (.agg (i1 :: i2 :: i3 :: i4 :: i5 :: i6 :: i7 :: i8 :: i9 :: i10 :: i11 :: i12 :: i13 :: i14 :: i15 :: i16 :: i17 :: i18 :: i19 :: i20 :: i21 :: i22 :: i23 :: i24 :: i25 :: i26 :: i27 :: i28 :: i29 :: i30 :: i31 :: i32 :: []).toArray) (.int .i64 ((27 : Nat) : Int))).run Tryz.prog w = .ok i28 w := by kernel_rfl
theorem Tryz.idxId28 (i1 i2 i3 i4 i5 i6 i7 i8 i9 i10 i11 i12 i13 i14 i15 i16 i17 i18 i19 i20 i21 i22 i23 i24 i25 i26 i27 i28 i29 i30 i31 i32 : Value) (w : World) : (Instr.index 31 (.agg (i1 :: i2 :: i3 :: i4 :: i5 :: i6 :: i7 :: i8 :: i9 :: i10 :: i11 :: i12 :: i13 :: i14 :: i15 :: i16 :: i17 :: i18 :: i19 :: i20 :: i21 :: i22 :: i23 :: i24 :: i25 :: i26 :: i27 :: i28 :: i29 :: i30 :: i31 :: i32 :: []).toArray) (.int .i64 ((28 : Nat) : Int))).run Tryz.prog w = .ok i29 w := by kernel_rfl
theorem Tryz.idxId29 (i1 i2 i3 i4 i5 i6 i7 i8 i9 i10 i11 i12 i13 i14 i15 i16 i17 i18 i19 i20 i21 i22 i23 i24 i25 i26 i27 i28 i29 i30 i31 i32 : Value) (w : World) : (Instr.index 31 (.agg (i1 :: i2 :: i3 :: i4 :: i5 :: i6 :: i7 :: i8 :: i9 :: i10 :: i11 :: i12 :: i13 :: i14 :: i15 :: i16 :: i17 :: i18 :: i19 :: i20 :: i21 :: i22 :: i23 :: i24 :: i25 :: i26 :: i27 :: i28 :: i29 :: i30 :: i31 :: i32 :: []).toArray) (.int .i64 ((29 : Nat) : Int))).run Tryz.prog w = .ok i30 w := by kernel_rfl
theorem Tryz.idxId30 (i1 i2 i3 i4 i5 i6 i7 i8 i9 i10 i11 i12 i13 i14 i15 i16 i17 i18 i19 i20 i21 i22 i23 i24 i25 i26 i27 i28 i29 i30 i31 i32 : Value) (w : World) : (Instr.index 31 (.agg (i1 :: i2 :: i3 :: i4 :: i5 :: i6 :: i7 :: i8 :: i9 :: i10 :: i11 :: i12 :: i13 :: i14 :: i15 :: i16 :: i17 :: i18 :: i19 :: i20 :: i21 :: i22 :: i23 :: i24 :: i25 :: i26 :: i27 :: i28 :: i29 :: i30 :: i31 :: i32 :: []).toArray) (.int .i64 ((30 : Nat) : Int))).run Tryz.prog w = .ok i31 w := by kernel_rfl
theorem Tryz.idxId31 (i1 i2 i3 i4 i5 i6 i7 i8 i9 i10 i11 i12 i13 i14 i15 i16 i17 i18 i19 i20 i21 i22 i23 i24 i25 i26 i27 i28 i29 i30 i31 i32 : Value) (w : World) : (Instr.index 31 (.agg (i1 :: i2 :: i3 :: i4 :: i5 :: i6 :: i7 :: i8 :: i9 :: i10 :: i11 :: i12 :: i13 :: i14 :: i15 :: i16 :: i17 :: i18 :: i19 :: i20 :: i21 :: i22 :: i23 :: i24 :: i25 :: i26 :: i27 :: i28 :: i29 :: i30 :: i31 :: i32 :: []).toArray) (.int .i64 ((31 : Nat) : Int))).run Tryz.prog w = .ok i32 w := by kernel_rfl
set_option maxRecDepth 100000 in
theorem Tryz.idxId (i1 i2 i3 i4 i5 i6 i7 i8 i9 i10 i11 i12 i13 i14 i15 i16 i17 i18 i19 i20 i21 i22 i23 i24 i25 i26 i27 i28 i29 i30 i31 i32 : Value) (k : Nat) (v : Value) (h : (i1 :: i2 :: i3 :: i4 :: i5 :: i6 :: i7 :: i8 :: i9 :: i10 :: i11 :: i12 :: i13 :: i14 :: i15 :: i16 :: i17 :: i18 :: i19 :: i20 :: i21 :: i22 :: i23 :: i24 :: i25 :: i26 :: i27 :: i28 :: i29 :: i30 :: i31 :: i32 :: [])[k]? = some v) (w : World) : (Instr.index 31 (.agg (i1 :: i2 :: i3 :: i4 :: i5 :: i6 :: i7 :: i8 :: i9 :: i10 :: i11 :: i12 :: i13 :: i14 :: i15 :: i16 :: i17 :: i18 :: i19 :: i20 :: i21 :: i22 :: i23 :: i24 :: i25 :: i26 :: i27 :: i28 :: i29 :: i30 :: i31 :: i32 :: []).toArray) (.int .i64 (k : Int))).run Tryz.prog w = .ok v w := by
  match k, h with
  | 0, h => rw [← (Option.some.inj h : i1 = v)]; exact Tryz.idxId0 i1 i2 i3 i4 i5 i6 i7 i8 i9 i10 i11 i12 i13 i14 i15 i16 i17 i18 i19 i20 i21 i22 i23 i24 i25 i26 i27 i28 i29 i30 i31 i32 w
  | 1, h => rw [← (Option.some.inj h : i2 = v)]; exact Tryz.idxId1 i1 i2 i3 i4 i5 i6 i7 i8 i9 i10 i11 i12 i13 i14 i15 i16 i17 i18 i19 i20 i21 i22 i23 i24 i25 i26 i27 i28 i29 i30 i31 i32 w
  | 2, h => rw [← (Option.some.inj h : i3 = v)]; exact Tryz.idxId2 i1 i2 i3 i4 i5 i6 i7 i8 i9 i10 i11 i12 i13 i14 i15 i16 i17 i18 i19 i20 i21 i22 i23 i24 i25 i26 i27 i28 i29 i30 i31 i32 w
  | 3, h => rw [← (Option.some.inj h : i4 = v)]; exact Tryz.idxId3 i1 i2 i3 i4 i5 i6 i7 i8 i9 i10 i11 i12 i13 i14 i15 i16 i17 i18 i19 i20 i21 i22 i23 i24 i25 i26 i27 i28 i29 i30 i31 i32 w
  | 4, h => rw [← (Option.some.inj h : i5 = v)]; exact Tryz.idxId4 i1 i2 i3 i4 i5 i6 i7 i8 i9 i10 i11 i12 i13 i14 i15 i16 i17 i18 i19 i20 i21 i22 i23 i24 i25 i26 i27 i28 i29 i30 i31 i32 w
  | 5, h => rw [← (Option.some.inj h : i6 = v)]; exact Tryz.idxId5 i1 i2 i3 i4 i5 i6 i7 i8 i9 i10 i11 i12 i13 i14 i15 i16 i17 i18 i19 i20 i21 i22 i23 i24 i25 i26 i27 i28 i29 i30 i31 i32 w
  | 6, h => rw [← (Option.some.inj h : i7 = v)]; exact Tryz.idxId6 i1 i2 i3 i4 i5 i6 i7 i8 i9 i10 i11 i12 i13 i14 i15 i16 i17 i18 i19 i20 i21 i22 i23 i24 i25 i26 i27 i28 i29 i30 i31 i32 w
  | 7, h => rw [← (Option.some.inj h : i8 = v)]; exact Tryz.idxId7 i1 i2 i3 i4 i5 i6 i7 i8 i9 i10 i11 i12 i13 i14 i15 i16 i17 i18 i19 i20 i21 i22 i23 i24 i25 i26 i27 i28 i29 i30 i31 i32 w
  | 8, h => rw [← (Option.some.inj h : i9 = v)]; exact Tryz.idxId8 i1 i2 i3 i4 i5 i6 i7 i8 i9 i10 i11 i12 i13 i14 i15 i16 i17 i18 i19 i20 i21 i22 i23 i24 i25 i26 i27 i28 i29 i30 i31 i32 w
  | 9, h => rw [← (Option.some.inj h : i10 = v)]; exact Tryz.idxId9 i1 i2 i3 i4 i5 i6 i7 i8 i9 i10 i11 i12 i13 i14 i15 i16 i17 i18 i19 i20 i21 i22 i23 i24 i25 i26 i27 i28 i29 i30 i31 i32 w
  | 10, h => rw [← (Option.some.inj h : i11 = v)]; exact Tryz.idxId10 i1 i2 i3 i4 i5 i6 i7 i8 i9 i10 i11 i12 i13 i14 i15 i16 i17 i18 i19 i20 i21 i22 i23 i24 i25 i26 i27 i28 i29 i30 i31 i32 w
  | 11, h => rw [← (Option.some.inj h : i12 = v)]; exact Tryz.idxId11 i1 i2 i3 i4 i5 i6 i7 i8 i9 i10 i11 i12 i13 i14 i15 i16 i17 i18 i19 i20 i21 i22 i23 i24 i25 i26 i27 i28 i29 i30 i31 i32 w
  | 12, h => rw [← (Option.some.inj h : i13 = v)]; exact Tryz.idxId12 i1 i2 i3 i4 i5 i6 i7 i8 i9 i10 i11 i12 i13 i14 i15 i16 i17 i18 i19 i20 i21 i22 i23 i24 i25 i26 i27 i28 i29 i30 i31 i32 w
  | 13, h => rw [← (Option.some.inj h : i14 = v)]; exact Tryz.idxId13 i1 i2 i3 i4 i5 i6 i7 i8 i9 i10 i11 i12 i13 i14 i15 i16 i17 i18 i19 i20 i21 i22 i23 i24 i25 i26 i27 i28 i29 i30 i31 i32 w
  | 14, h => rw [← (Option.some.inj h : i15 = v)]; exact Tryz.idxId14 i1 i2 i3 i4 i5 i6 i7 i8 i9 i10 i11 i12 i13 i14 i15 i16 i17 i18 i19 i20 i21 i22 i23 i24 i25 i26 i27 i28 i29 i30 i31 i32 w
  | 15, h => rw [← (Option.some.inj h : i16 = v)]; exact Tryz.idxId15 i1 i2 i3 i4 i5 i6 i7 i8 i9 i10 i11 i12 i13 i14 i15 i16 i17 i18 i19 i20 i21 i22 i23 i24 i25 i26 i27 i28 i29 i30 i31 i32 w
  | 16, h => rw [← (Option.some.inj h : i17 = v)]; exact Tryz.idxId16 i1 i2 i3 i4 i5 i6 i7 i8 i9 i10 i11 i12 i13 i14 i15 i16 i17 i18 i19 i20 i21 i22 i23 i24 i25 i26 i27 i28 i29 i30 i31 i32 w
  | 17, h => rw [← (Option.some.inj h : i18 = v)]; exact Tryz.idxId17 i1 i2 i3 i4 i5 i6 i7 i8 i9 i10 i11 i12 i13 i14 i15 i16 i17 i18 i19 i20 i21 i22 i23 i24 i25 i26 i27 i28 i29 i30 i31 i32 w
  | 18, h => rw [← (Option.some.inj h : i19 = v)]; exact Tryz.idxId18 i1 i2 i3 i4 i5 i6 i7 i8 i9 i10 i11 i12 i13 i14 i15 i16 i17 i18 i19 i20 i21 i22 i23 i24 i25 i26 i27 i28 i29 i30 i31 i32 w
  | 19, h => rw [← (Option.some.inj h : i20 = v)]; exact Tryz.idxId19 i1 i2 i3 i4 i5 i6 i7 i8 i9 i10 i11 i12 i13 i14 i15 i16 i17 i18 i19 i20 i21 i22 i23 i24 i25 i26 i27 i28 i29 i30 i31 i32 w
  | 20, h => rw [← (Option.some.inj h : i21 = v)]; exact Tryz.idxId20 i1 i2 i3 i4 i5 i6 i7 i8 i9 i10 i11 i12 i13 i14 i15 i16 i17 i18 i19 i20 i21 i22 i23 i24 i25 i26 i27 i28 i29 i30 i31 i32 w
  | 21, h => rw [← (Option.some.inj h : i22 = v)]; exact Tryz.idxId21 i1 i2 i3 i4 i5 i6 i7 i8 i9 i10 i11 i12 i13 i14 i15 i16 i17 i18 i19 i20 i21 i22 i23 i24 i25 i26 i27 i28 i29 i30 i31 i32 w
  | 22, h => rw [← (Option.some.inj h : i23 = v)]; exact Tryz.idxId22 i1 i2 i3 i4 i5 i6 i7 i8 i9 i10 i11 i12 i13 i14 i15 i16 i17 i18 i19 i20 i21 i22 i23 i24 i25 i26 i27 i28 i29 i30 i31 i32 w
  | 23, h => rw [← (Option.some.inj h : i24 = v)]; exact Tryz.idxId23 i1 i2 i3 i4 i5 i6 i7 i8 i9 i10 i11 i12 i13 i14 i15 i16 i17 i18 i19 i20 i21 i22 i23 i24 i25 i26 i27 i28 i29 i30 i31 i32 w
  | 24, h => rw [← (Option.some.inj h : i25 = v)]; exact Tryz.idxId24 i1 i2 i3 i4 i5 i6 i7 i8 i9 i10 i11 i12 i13 i14 i15 i16 i17 i18 i19 i20 i21 i22 i23 i24 i25 i26 i27 i28 i29 i30 i31 i32 w
  | 25, h => rw [← (Option.some.inj h : i26 = v)]; exact Tryz.idxId25 i1 i2 i3 i4 i5 i6 i7 i8 i9 i10 i11 i12 i13 i14 i15 i16 i17 i18 i19 i20 i21 i22 i23 i24 i25 i26 i27 i28 i29 i30 i31 i32 w
  | 26, h => rw [← (Option.some.inj h : i27 = v)]; exact Tryz.idxId26 i1 i2 i3 i4 i5 i6 i7 i8 i9 i10 i11 i12 i13 i14 i15 i16 i17 i18 i19 i20 i21 i22 i23 i24 i25 i26 i27 i28 i29 i30 i31 i32 w
  | 27, h => rw [← (Option.some.inj h : i28 = v)]; exact Tryz.idxId27 i1 i2 i3 i4 i5 i6 i7 i8 i9 i10 i11 i12 i13 i14 i15 i16 i17 i18 i19 i20 i21 i22 i23 i24 i25 i26 i27 i28 i29 i30 i31 i32 w
  | 28, h => rw [← (Option.some.inj h : i29 = v)]; exact Tryz.idxId28 i1 i2 i3 i4 i5 i6 i7 i8 i9 i10 i11 i12 i13 i14 i15 i16 i17 i18 i19 i20 i21 i22 i23 i24 i25 i26 i27 i28 i29 i30 i31 i32 w
  | 29, h => rw [← (Option.some.inj h : i30 = v)]; exact Tryz.idxId29 i1 i2 i3 i4 i5 i6 i7 i8 i9 i10 i11 i12 i13 i14 i15 i16 i17 i18 i19 i20 i21 i22 i23 i24 i25 i26 i27 i28 i29 i30 i31 i32 w
  | 30, h => rw [← (Option.some.inj h : i31 = v)]; exact Tryz.idxId30 i1 i2 i3 i4 i5 i6 i7 i8 i9 i10 i11 i12 i13 i14 i15 i16 i17 i18 i19 i20 i21 i22 i23 i24 i25 i26 i27 i28 i29 i30 i31 i32 w
  | 31, h => rw [← (Option.some.inj h : i32 = v)]; exact Tryz.idxId31 i1 i2 i3 i4 i5 i6 i7 i8 i9 i10 i11 i12 i13 i14 i15 i16 i17 i18 i19 i20 i21 i22 i23 i24 i25 i26 i27 i28 i29 i30 i31 i32 w
  | k + 32, h => cases h

theorem hexd_get (q : Nat) (hq : q < 16) (h : q < (⟨#[48, 49, 50, 51, 52, 53, 54, 55, 56, 57, 97, 98, 99, 100, 101, 102]⟩ : ByteArray).size) : (⟨#[48, 49, 50, 51, 52, 53, 54, 55, 56, 57, 97, 98, 99, 100, 101, 102]⟩ : ByteArray)[q] = hexd q :=
  match q, hq with
  | 0, _ => rfl
  | 1, _ => rfl
  | 2, _ => rfl
  | 3, _ => rfl
  | 4, _ => rfl
  | 5, _ => rfl
  | 6, _ => rfl
  | 7, _ => rfl
  | 8, _ => rfl
  | 9, _ => rfl
  | 10, _ => rfl
  | 11, _ => rfl
  | 12, _ => rfl
  | 13, _ => rfl
  | 14, _ => rfl
  | 15, _ => rfl
  | q + 16, h => absurd h (by omega)
def Tryz.ren167 : Go.Shelf.Ren := { Tryz.lays156_ren with f := fun n => if n = 167 then 117 else Tryz.lays156_ren.f n }
theorem Tryz.lays167 : Go.Proofs.Lays.n167 Tryz.prog Tryz.ren167 := { Tryz.lays156, Tryz.Builder_Extra_156 with
  f167 := Tryz.func117.trans (congrArg some (by kernel_rfl))
  f240 := Tryz.func110.trans (congrArg some (by kernel_rfl))
  f276 := Tryz.func141.trans (congrArg some (by kernel_rfl)) }
theorem Tryz.Builder_Extra_167 : Builder.Extra Tryz.prog Tryz.ren167 := {
  sizeBuilder := by kernel_rfl
  liesBuilder := by kernel_rfl
  t5 := Tryz.underlying5
  a5 := Tryz.isAgg5
  z5 := Tryz.sizeOf5
  v5 := Tryz.zeroValue5
  infoByte := by kernel_rfl
  cellsByte := by kernel_rfl
  sizeByte := by kernel_rfl
  neB5 := by decide }
theorem writeByte_any (B b : Nat) (bs : List Value) (c : Int) (w : World) (h : Lib.IsBuilderF 109 5 B b bs w) (hlen : bs.length + 1 ≤ 140737488355328) (hBw : B ≤ w.heap.size) :
    Calls Tryz.prog 117 #[.pointer (some ⟨b, 0, none⟩), .int .u8 c] w fun e w' => e = .returned .nilIface ∧ (Lib.BuilderAtF 109 5 B b (.pointer (some ⟨b, 0, none⟩)) (bs ++ [.int .u8 c]) w' ∧ Below B w w' ∧ Lib.OthersKept 5 (some b) w w') :=
  Any.Builder_WriteByte_k Tryz.lays167 Tryz.Builder_Extra_167 B b bs c w h hlen hBw
theorem string_any (B b : Nat) (l : List UInt8) (w : World) (h : Lib.IsBuilderF 109 5 B b (Lib.byteCells l) w) (hBw : B ≤ w.heap.size) :
    Calls Tryz.prog 69 #[.pointer (some ⟨b, 0, none⟩)] w fun e w' => e = .returned (.string ⟨l.toArray⟩) ∧ (Lib.IsBuilderF 109 5 B b (Lib.byteCells l) w' ∧ Below B w w' ∧ Lib.OthersKept 5 (some b) w w') :=
  Any.Builder_String_any_k { Tryz.lays156 with } Tryz.Builder_Extra_156 B b l w h hBw
abbrev bytesV (l : List UInt8) : Value := .string ⟨l.toArray⟩
theorem byteCells_hex {id : List UInt8} {k : Nat} {c : UInt8} (h : id[k]? = some c) : Lib.byteCells (hexL (id.take (k + 1))) = (Lib.byteCells (hexL (id.take k)) ++ [.int .u8 ((hexd (c.toNat / 16)).toNat : Int)]) ++ [.int .u8 ((hexd (c.toNat % 16)).toNat : Int)] := by
  obtain ⟨hk1, hk2⟩ := List.getElem?_eq_some_iff.1 h
  rw [List.take_succ_eq_append_getElem hk1, hexL_snoc, hk2]
  simp [Lib.byteCells]
set_option maxHeartbeats 1600000 in
set_option maxRecDepth 100000 in
theorem hex_any (i1 i2 i3 i4 i5 i6 i7 i8 i9 i10 i11 i12 i13 i14 i15 i16 i17 i18 i19 i20 i21 i22 i23 i24 i25 i26 i27 i28 i29 i30 i31 i32 : Value) (id : List UInt8) (hid : i1 :: i2 :: i3 :: i4 :: i5 :: i6 :: i7 :: i8 :: i9 :: i10 :: i11 :: i12 :: i13 :: i14 :: i15 :: i16 :: i17 :: i18 :: i19 :: i20 :: i21 :: i22 :: i23 :: i24 :: i25 :: i26 :: i27 :: i28 :: i29 :: i30 :: i31 :: i32 :: [] = byteVals id) (w : World) :
    Calls Tryz.prog 80 #[.agg (i1 :: i2 :: i3 :: i4 :: i5 :: i6 :: i7 :: i8 :: i9 :: i10 :: i11 :: i12 :: i13 :: i14 :: i15 :: i16 :: i17 :: i18 :: i19 :: i20 :: i21 :: i22 :: i23 :: i24 :: i25 :: i26 :: i27 :: i28 :: i29 :: i30 :: i31 :: i32 :: []).toArray] w fun e w' => e = .returned (bytesV (hexL id)) ∧ Below w.heap.size w w' := by
  have hl : id.length = 32 := by have := congrArg List.length hid; simpa [byteVals] using this.symm
  have hix := Lib.hid (Tryz.idxId i1 i2 i3 i4 i5 i6 i7 i8 i9 i10 i11 i12 i13 i14 i15 i16 i17 i18 i19 i20 i21 i22 i23 i24 i25 i26 i27 i28 i29 i30 i31 i32)
  have hid' := Lib.hid hid
  have hl' := Lib.hid hl
  clear hid hl
  obtain ⟨W, hW⟩ : ∃ W, W = (w.alloc (.cells (i1 :: i2 :: i3 :: i4 :: i5 :: i6 :: i7 :: i8 :: i9 :: i10 :: i11 :: i12 :: i13 :: i14 :: i15 :: i16 :: i17 :: i18 :: i19 :: i20 :: i21 :: i22 :: i23 :: i24 :: i25 :: i26 :: i27 :: i28 :: i29 :: i30 :: i31 :: i32 :: []).toArray 31)).alloc (.cells #[.pointer none, .slice none 0 0] 109) := ⟨_, rfl⟩
  have hb0 : Below w.heap.size w W := by rw [hW]; exact ((Below.refl _ w).alloc (Nat.le_refl _) _).alloc (by simp) _
  have hs0 : W.heap.size = w.heap.size + 1 + 1 := by rw [hW]; simp
  have hbd0 : Lib.IsBuilderF 109 5 (w.heap.size + 1) (w.heap.size + 1) (Lib.byteCells (hexL (id.take 0))) W := Lib.IsBuilderF.of (.inl ⟨Nat.le_refl _, .slice none 0 0, by rw [hW]; exact heap_alloc2_new _ _ _, World.ownsRow_nil _ _ _ _, by simp [Value.ownBlock]⟩)
  have hbd0' := Lib.hid hbd0
  have hb0' := Lib.hid hb0
  have hs0' := Lib.hid hs0
  have hW' := Lib.hid hW
  clear hbd0 hb0 hs0 hW
  go_enter Tryz.func80, Tryz.ntmps80
  go_wp2_with (refine wpList_load_row rfl 31 _ rfl w.heap.size rfl _ _ _ _ (heap_alloc2_old _ _ _) Tryz.underlying31 rfl rfl ?_)
  rw [← hW'.out]
  go_loopw [5, 7] (fun _ i wr => ∃ k : Nat, k ≤ 32 ∧ i = .int .i64 k ∧ Lib.IsBuilderF 109 5 (w.heap.size + 1) (w.heap.size + 1) (Lib.byteCells (hexL (id.take k))) wr ∧ Below w.heap.size w wr ∧ w.heap.size + 1 < wr.heap.size) (fun _ i _ => 32 - (intOf i).toNat)
  case atStart => exact ⟨0, by omega, rfl, hbd0'.out, hb0'.out, by have := hs0'.out; omega⟩
  case round =>
    obtain ⟨k, hk0, rfl, hB, hbel, hsz⟩ := hrel
    have hB' := Lib.hid hB
    have hbel' := Lib.hid hbel
    clear hB hbel
    by_cases hk : k < 32
    · obtain ⟨c, hc⟩ : ∃ c, id[k]? = some c := ⟨id[k]'(by rw [hl'.out]; exact hk), List.getElem?_eq_getElem _⟩
      have hcell := hix.out k (.int .u8 (c.toNat : Int)) (by rw [hid'.out, byteVals, List.getElem?_map, hc]; rfl)
      have hnext := Lib.hid (byteCells_hex hc)
      clear hc
      have hc256 : c.toNat < 256 := c.toNat_lt
      have hx1 : ∀ W, (Instr.index 9 (.string ⟨#[48, 49, 50, 51, 52, 53, 54, 55, 56, 57, 97, 98, 99, 100, 101, 102]⟩) (.int .u8 ((c.toNat : Int) / 16))).run Tryz.prog W = .ok (.int .u8 ((hexd (c.toNat / 16)).toNat : Int)) W := fun W => by
        rw [show ((c.toNat : Int) / 16) = ((c.toNat / 16 : Nat) : Int) from by omega]; exact Tryz.idxHexd _ (by omega) W
      have hx2 : ∀ W, (Instr.index 9 (.string ⟨#[48, 49, 50, 51, 52, 53, 54, 55, 56, 57, 97, 98, 99, 100, 101, 102]⟩) (.int .u8 (bits BinOp.and IntKind.u8 (c.toNat : Int) 15))).run Tryz.prog W = .ok (.int .u8 ((hexd (c.toNat % 16)).toNat : Int)) W := fun W => by
        rw [and15 _ hc256]; exact Tryz.idxHexd _ (by omega) W
      obtain ⟨x1, hxx1⟩ : ∃ x, x = (hexd (c.toNat / 16)) := ⟨_, rfl⟩
      obtain ⟨x2, hxx2⟩ : ∃ x, x = (hexd (c.toNat % 16)) := ⟨_, rfl⟩
      rw [← hxx1] at hx1 hnext
      rw [← hxx2] at hx2 hnext
      have hlen : (Lib.byteCells (hexL (id.take k))).length ≤ 100 := by
        rw [Lib.byteCells, List.length_map, hexL_length, List.length_take]; omega
      have hlen' := Lib.hid hlen
      have hx2e := Lib.hid hxx2
      clear hxx1 hxx2 hlen
      go_wp2_with (go_at_call 117; fail)
      refine (writeByte_any (w.heap.size + 1) (w.heap.size + 1) _ _ _ hB'.out (by have := hlen'.out; omega) (by omega)).mono ?_
      rintro e w1 ⟨rfl, hbd1, hbe1, _⟩
      have hB1 := Lib.hid (show Lib.IsBuilderF _ _ _ _ _ _ from Or.inr hbd1)
      have hbel1 := Lib.hid (hbel'.out.trans (hbe1.mono (by omega)))
      have hsz1 : w.heap.size + 1 < w1.heap.size := by have := hbe1.size; omega
      clear hbd1 hbe1
      go_wp2_with (go_at_call 117; fail)
      refine (writeByte_any (w.heap.size + 1) (w.heap.size + 1) _ _ _ hB1.out (by have := hlen'.out; rw [List.length_append, List.length_singleton]; omega) (by omega)).mono ?_
      rintro e w2 ⟨rfl, hbd1, hbe1, _⟩
      have hB2 := Lib.hid (show Lib.IsBuilderF _ _ _ _ _ _ from Or.inr hbd1)
      have hbel2 := Lib.hid (hbel1.out.trans (hbe1.mono (by omega)))
      have hsz2 : w.heap.size + 1 < w2.heap.size := by have := hbe1.size; omega
      clear hbd1 hbe1
      go_wp2_with fail
      rw [hexd_get _ (by omega), ← hx2e.out] at hB2
      exact ⟨⟨k + 1, by omega, by go_num, by rw [hnext.out]; exact hB2.out, hbel2.out, hsz2⟩, by simp [intOf]; omega⟩
    · obtain rfl : k = 32 := by omega
      have e32 : id.take 32 = id := List.take_of_length_le (by rw [hl'.out]; exact Nat.le_refl _)
      rw [e32] at hB'
      clear e32
      go_wp2_with (go_at_call 69; fail)
      refine (string_any _ _ _ _ hB'.out (by omega)).mono ?_
      rintro e w1 ⟨rfl, _, hbe1, _⟩
      have hbel1 := Lib.hid (hbel'.out.trans (hbe1.mono (by omega)))
      clear hbe1
      go_wp2_with fail
      go_ret
      exact ⟨rfl, hbel1.out⟩
end Go.Proofs.YtnniijnfkbkdcaaGreatDoor
