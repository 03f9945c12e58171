/- Own: a line of the reference as a line of the overview. (Printed by wip/gen_of.py.) -/
import Derived.Test.YtnniijnfkbkdcaaGreatDoorOS
namespace Go.Proofs.YtnniijnfkbkdcaaGreatDoor
open Go Go.RowKit Go.Proofs
set_option linter.unusedSimpArgs false
set_option linter.unusedVariables false

theorem KeptM.grownNew {m : Nat} {a b c : World} {row : Option Nat} {B : Nat} (h : KeptM m a b) (hg : b.grownBy c row) (hr : ∀ j, row = some j → B ≤ j) (hB : m < B ∧ B = a.heap.size) : KeptM m a c :=
  ⟨hg.os.trans h.os, hg.tape.trans h.tape, hg.output.trans h.output, Nat.le_trans h.size hg.size, fun k h1 h2 => (hg.block k (by have := h.size; omega) (fun e => by have := hr k e.symm; omega)).trans (h.block k h1 h2)⟩
theorem KeptM.setM {m : Nat} {a b : World} {cs : Array Value} (h : KeptM m a b) : KeptM m a (b.setRow m cs) :=
  ⟨h.os, h.tape, h.output, by have := h.size; simp only [World.setRow, Array.size_modify]; exact this, fun k h1 h2 => (setRow_other b m k cs h2).trans (h.block k h1 h2)⟩
theorem RowN.grown {w w' : World} {g n : Nat} {t : TypeId} {row : Option Nat} (h : RowN w g n t) (hg : w.grownBy w' row) (hr : some g ≠ row) : RowN w' g n t := by
  obtain ⟨o, h1, h2⟩ := h
  exact ⟨o, (hg.block _ (Array.getElem?_eq_some_iff.1 h1).1 hr).trans h1, h2⟩
theorem ownsRow_setOther {w : World} {base : Nat} {e : TypeId} {size : Nat} {v : Value} {n : Nat} {xs : List Value} {g : Nat} {cs : Array Value} (h : w.ownsRow base e size v n xs) (hne : v.ownBlock ≠ some g) : (w.setRow g cs).ownsRow base e size v n xs := by
  refine ⟨h.1, ?_⟩
  rcases h.2 with hn | ⟨k, cap, cur, rfl, hb, hk, rest⟩
  · exact .inl hn
  · exact .inr ⟨k, cap, cur, rfl, hb, (setRow_other w g k cs (fun e => hne (by simp [Value.ownBlock, e]))).trans hk, rest⟩
theorem ownsRow_base {w : World} {B B' : Nat} {e : TypeId} {size : Nat} {v : Value} {n : Nat} {xs : List Value} (h : w.ownsRow B e size v n xs) (hb : B' ≤ B) : w.ownsRow B' e size v n xs := by
  refine ⟨h.1, ?_⟩
  rcases h.2 with hn | ⟨k, cap, cur, rfl, h1, hk, rest⟩
  · exact .inl hn
  · exact .inr ⟨k, cap, cur, rfl, Nat.le_trans hb h1, hk, rest⟩
theorem Tryz.infoId : (Tryz.prog.info? 31).map (fun i => (i.zero, i.size, i.bytes)) = some (some (.agg (.int .u8 0 :: .int .u8 0 :: .int .u8 0 :: .int .u8 0 :: .int .u8 0 :: .int .u8 0 :: .int .u8 0 :: .int .u8 0 :: .int .u8 0 :: .int .u8 0 :: .int .u8 0 :: .int .u8 0 :: .int .u8 0 :: .int .u8 0 :: .int .u8 0 :: .int .u8 0 :: .int .u8 0 :: .int .u8 0 :: .int .u8 0 :: .int .u8 0 :: .int .u8 0 :: .int .u8 0 :: .int .u8 0 :: .int .u8 0 :: .int .u8 0 :: .int .u8 0 :: .int .u8 0 :: .int .u8 0 :: .int .u8 0 :: .int .u8 0 :: .int .u8 0 :: .int .u8 0 :: []).toArray), 32, 32) := by kernel_rfl
theorem Tryz.build_own (n : Int) (i1 i2 i3 i4 i5 i6 i7 i8 i9 i10 i11 i12 i13 i14 i15 i16 i17 i18 i19 i20 i21 i22 i23 i24 i25 i26 i27 i28 i29 i30 i31 i32 : Value) (nm : ByteArray) (d : Int) (sj : ByteArray) (A : Option Addr) (r k : Nat) (b : Int) (w : World) : (Instr.build 44 #[(0, .int .i64 n), (1, .agg (i1 :: i2 :: i3 :: i4 :: i5 :: i6 :: i7 :: i8 :: i9 :: i10 :: i11 :: i12 :: i13 :: i14 :: i15 :: i16 :: i17 :: i18 :: i19 :: i20 :: i21 :: i22 :: i23 :: i24 :: i25 :: i26 :: i27 :: i28 :: i29 :: i30 :: i31 :: i32 :: []).toArray), (2, .string nm), (3, .int .i64 d), (4, .string sj), (5, .slice A r k), (6, .int .i64 b)]).run Tryz.prog w = .ok (.agg (.int .i64 n :: i1 :: i2 :: i3 :: i4 :: i5 :: i6 :: i7 :: i8 :: i9 :: i10 :: i11 :: i12 :: i13 :: i14 :: i15 :: i16 :: i17 :: i18 :: i19 :: i20 :: i21 :: i22 :: i23 :: i24 :: i25 :: i26 :: i27 :: i28 :: i29 :: i30 :: i31 :: i32 :: .string nm :: .int .i64 d :: .string sj :: .slice A r k :: .int .i64 b :: []).toArray) w := by kernel_rfl
set_option maxHeartbeats 3200000 in
set_option maxRecDepth 100000 in
theorem own_any (g : ByteArray) (n : Int) (i1 i2 i3 i4 i5 i6 i7 i8 i9 i10 i11 i12 i13 i14 i15 i16 i17 i18 i19 i20 i21 i22 i23 i24 i25 i26 i27 i28 i29 i30 i31 i32 : Value) (nm : ByteArray) (d : Int) (sj : ByteArray) (rv : Value) (r : Nat) (ys : List Value) (b : Int) (w : World) (hi32 : ∀ u ∈ i1 :: i2 :: i3 :: i4 :: i5 :: i6 :: i7 :: i8 :: i9 :: i10 :: i11 :: i12 :: i13 :: i14 :: i15 :: i16 :: i17 :: i18 :: i19 :: i20 :: i21 :: i22 :: i23 :: i24 :: i25 :: i26 :: i27 :: i28 :: i29 :: i30 :: i31 :: i32 :: [], u.oneCell' = true) (hs : SrcV w 32 rv r ys) (hone : ∀ u ∈ ys, u.oneCell' = true) (hr : r ≤ 1000000) :
    Calls Tryz.prog 27 #[.agg ((.string g :: .int .i64 n :: i1 :: i2 :: i3 :: i4 :: i5 :: i6 :: i7 :: i8 :: i9 :: i10 :: i11 :: i12 :: i13 :: i14 :: i15 :: i16 :: i17 :: i18 :: i19 :: i20 :: i21 :: i22 :: i23 :: i24 :: i25 :: i26 :: i27 :: i28 :: i29 :: i30 :: i31 :: i32 :: .string nm :: .int .i64 d :: .string sj :: rv :: .int .i64 b :: [])).toArray] w fun e w' => ∃ v2, e = .returned (.agg (.int .i64 n :: i1 :: i2 :: i3 :: i4 :: i5 :: i6 :: i7 :: i8 :: i9 :: i10 :: i11 :: i12 :: i13 :: i14 :: i15 :: i16 :: i17 :: i18 :: i19 :: i20 :: i21 :: i22 :: i23 :: i24 :: i25 :: i26 :: i27 :: i28 :: i29 :: i30 :: i31 :: i32 :: .string nm :: .int .i64 d :: .string sj :: v2 :: .int .i64 b :: []).toArray) ∧ w'.ownsRow w.heap.size 31 32 v2 r ys ∧ Below w.heap.size w w' := by
  obtain ⟨i0, hi, hz0, hz1, hz2⟩ := info_parts Tryz.infoId
  obtain ⟨W, hW⟩ : ∃ W, W = (w.alloc (.cells ((.string g :: .int .i64 n :: i1 :: i2 :: i3 :: i4 :: i5 :: i6 :: i7 :: i8 :: i9 :: i10 :: i11 :: i12 :: i13 :: i14 :: i15 :: i16 :: i17 :: i18 :: i19 :: i20 :: i21 :: i22 :: i23 :: i24 :: i25 :: i26 :: i27 :: i28 :: i29 :: i30 :: i31 :: i32 :: .string nm :: .int .i64 d :: .string sj :: rv :: .int .i64 b :: [])).toArray 34)).alloc (.cells zl.toArray 44) := ⟨_, rfl⟩
  have hb0 : Below w.heap.size w W := by rw [hW]; exact ((Below.refl _ w).alloc (Nat.le_refl _) _).alloc (by simp) _
  have hs0 : W.heap.size = w.heap.size + 1 + 1 := by rw [hW]; simp
  have hq : W.heap[w.heap.size]? = some (.cells ((.string g :: .int .i64 n :: i1 :: i2 :: i3 :: i4 :: i5 :: i6 :: i7 :: i8 :: i9 :: i10 :: i11 :: i12 :: i13 :: i14 :: i15 :: i16 :: i17 :: i18 :: i19 :: i20 :: i21 :: i22 :: i23 :: i24 :: i25 :: i26 :: i27 :: i28 :: i29 :: i30 :: i31 :: i32 :: .string nm :: .int .i64 d :: .string sj :: rv :: .int .i64 b :: [])).toArray 34 (0, 0)) := by rw [hW]; exact heap_alloc2_old _ _ _
  have hz : RowN W (w.heap.size + 1) 38 44 := ⟨_, by rw [hW]; exact heap_alloc2_new _ _ _, rfl⟩
  have hidr : W.rangeAt w.heap.size 2 (i1 :: i2 :: i3 :: i4 :: i5 :: i6 :: i7 :: i8 :: i9 :: i10 :: i11 :: i12 :: i13 :: i14 :: i15 :: i16 :: i17 :: i18 :: i19 :: i20 :: i21 :: i22 :: i23 :: i24 :: i25 :: i26 :: i27 :: i28 :: i29 :: i30 :: i31 :: i32 :: []) := fun j v hj => by
    refine cells_at hq (2 + j) v ?_
    have hj32 : j < 32 := (List.getElem?_eq_some_iff.1 hj).1
    rw [Nat.add_comm, List.getElem?_cons_succ, List.getElem?_cons_succ]
    exact (List.getElem?_append_left (l₂ := .string nm :: .int .i64 d :: .string sj :: rv :: .int .i64 b :: []) hj32).trans hj
  obtain ⟨zid, hzid⟩ : ∃ z, z = (.agg (.int .u8 0 :: .int .u8 0 :: .int .u8 0 :: .int .u8 0 :: .int .u8 0 :: .int .u8 0 :: .int .u8 0 :: .int .u8 0 :: .int .u8 0 :: .int .u8 0 :: .int .u8 0 :: .int .u8 0 :: .int .u8 0 :: .int .u8 0 :: .int .u8 0 :: .int .u8 0 :: .int .u8 0 :: .int .u8 0 :: .int .u8 0 :: .int .u8 0 :: .int .u8 0 :: .int .u8 0 :: .int .u8 0 :: .int .u8 0 :: .int .u8 0 :: .int .u8 0 :: .int .u8 0 :: .int .u8 0 :: .int .u8 0 :: .int .u8 0 :: .int .u8 0 :: .int .u8 0 :: []).toArray : Value) := ⟨_, rfl⟩
  rw [← hzid] at hz0
  have hzs : zid.cells.size = 32 := by rw [hzid]; rfl
  have c1' := Lib.hid (cells_at hq 1 _ rfl)
  have c2' := Lib.hid (cells_at hq 34 _ rfl)
  have c3' := Lib.hid (cells_at hq 35 _ rfl)
  have c4' := Lib.hid (cells_at hq 36 _ rfl)
  have c5' := Lib.hid (cells_at hq 37 _ rfl)
  have c6' := Lib.hid (cells_at hq 38 _ rfl)
  have hidr' := Lib.hid hidr
  have hi' := Lib.hid hi
  have hz0' := Lib.hid hz0
  have hz1' := Lib.hid hz1
  have hz2' := Lib.hid hz2
  have hz' := Lib.hid hz
  have hsW' := Lib.hid (hs.below hb0)
  have hone' := Lib.hid hone
  have hi32' := Lib.hid hi32
  have hb0' := Lib.hid hb0
  have hne' : Hid (w.heap.size ≠ w.heap.size + 1) := by show _ ≠ _; omega
  have hlast' : Hid (w.heap.size + 1 < W.heap.size) := by show _ < _; omega
  have hW' := Lib.hid hW
  clear hq hz hidr hi hz0 hz1 hz2 hs hone hi32 hb0 hs0 hW hzid
  go_enter Tryz.func27, Tryz.ntmps27
  have hzz := Tryz.zero_zl
  go_wp2_with fail
  rw [← hW'.out]
  clear hW' hzz
  refine wp_region_noPanic ?_
  have hH0 : KeptM (w.heap.size + 1) W W.drew := ⟨rfl, rfl, rfl, Nat.le_refl _, fun _ _ _ => rfl⟩
  have hz0 : RowN W.drew (w.heap.size + 1) 38 44 := hz'.out
  have hs0 : SrcV W.drew 32 rv r ys := hsW'.out.below (Below.refl _ _).drew
  refine wp_region_held_drew (S := (fun W' => KeptM (w.heap.size + 1) W W')) (by kernel_rfl) hH0 (fun _ => ?_)
  refine wpAnyH_take (i := 0) (oi := { dst := some 3, op := Op.fieldAddr 34 (Operand.tmp 1) 1, type := 0, pos := "law.go:15", after := #[], guard := none }) (v := (.pointer (some ⟨w.heap.size, 1, none⟩))) rfl (by kernel_rfl) (by kernel_rfl) (by kernel_rfl) (fun _ _ _ h => h) (Or.inl ⟨by rfl, fun W' hSw => by clear hSw; go_simp⟩) hH0 ?_
  try simp only [Act.put, List.setIfInBounds_toArray, List.set_cons_zero, List.set_cons_succ]
  refine wpAnyH_take (i := 1) (oi := { dst := some 4, op := Op.load 3 (Operand.tmp 3), type := 3, pos := "law.go:15", after := #[{ on := 0, ground := Ground.data }], guard := none }) (v := (.int .i64 n)) rfl (by kernel_rfl) (by kernel_rfl) (by kernel_rfl) (fun _ _ _ h => h) (Or.inl ⟨by rfl, fun W' hSw => by have c := KeptM.cell hSw hne'.out c1'.out; clear hSw; go_simp⟩) hH0 ?_
  try simp only [Act.put, List.setIfInBounds_toArray, List.set_cons_zero, List.set_cons_succ]
  refine wpAnyH_take (i := 2) (oi := { dst := some 5, op := Op.fieldAddr 34 (Operand.tmp 1) 2, type := 0, pos := "law.go:15", after := #[], guard := none }) (v := (.pointer (some ⟨w.heap.size, 2, none⟩))) rfl (by kernel_rfl) (by kernel_rfl) (by kernel_rfl) (fun _ _ _ h => h) (Or.inl ⟨by rfl, fun W' hSw => by clear hSw; go_simp⟩) hH0 ?_
  try simp only [Act.put, List.setIfInBounds_toArray, List.set_cons_zero, List.set_cons_succ]
  refine wpAnyH_take (i := 3) (oi := { dst := some 6, op := Op.load 31 (Operand.tmp 5), type := 31, pos := "law.go:15", after := #[{ on := 2, ground := Ground.data }], guard := none }) (v := (.agg (i1 :: i2 :: i3 :: i4 :: i5 :: i6 :: i7 :: i8 :: i9 :: i10 :: i11 :: i12 :: i13 :: i14 :: i15 :: i16 :: i17 :: i18 :: i19 :: i20 :: i21 :: i22 :: i23 :: i24 :: i25 :: i26 :: i27 :: i28 :: i29 :: i30 :: i31 :: i32 :: []).toArray)) rfl (by kernel_rfl) (by kernel_rfl) (by kernel_rfl) (fun _ _ _ h => h) (yieldsIf_load_mid (by rfl) _ _ rfl w.heap.size 2 rfl (i1 :: i2 :: i3 :: i4 :: i5 :: i6 :: i7 :: i8 :: i9 :: i10 :: i11 :: i12 :: i13 :: i14 :: i15 :: i16 :: i17 :: i18 :: i19 :: i20 :: i21 :: i22 :: i23 :: i24 :: i25 :: i26 :: i27 :: i28 :: i29 :: i30 :: i31 :: i32 :: []) _ (fun W' hW j v hj => KeptM.cell hW hne'.out (hidr'.out j v hj)) Tryz.underlying31 rfl (by kernel_rfl)) hH0 ?_
  try simp only [Act.put, List.setIfInBounds_toArray, List.set_cons_zero, List.set_cons_succ]
  refine wpAnyH_take (i := 4) (oi := { dst := some 7, op := Op.fieldAddr 34 (Operand.tmp 1) 3, type := 0, pos := "law.go:15", after := #[], guard := none }) (v := (.pointer (some ⟨w.heap.size, 34, none⟩))) rfl (by kernel_rfl) (by kernel_rfl) (by kernel_rfl) (fun _ _ _ h => h) (Or.inl ⟨by rfl, fun W' hSw => by clear hSw; go_simp⟩) hH0 ?_
  try simp only [Act.put, List.setIfInBounds_toArray, List.set_cons_zero, List.set_cons_succ]
  refine wpAnyH_take (i := 5) (oi := { dst := some 8, op := Op.load 9 (Operand.tmp 7), type := 9, pos := "law.go:15", after := #[{ on := 4, ground := Ground.data }], guard := none }) (v := (.string nm)) rfl (by kernel_rfl) (by kernel_rfl) (by kernel_rfl) (fun _ _ _ h => h) (Or.inl ⟨by rfl, fun W' hSw => by have c := KeptM.cell hSw hne'.out c2'.out; clear hSw; go_simp⟩) hH0 ?_
  try simp only [Act.put, List.setIfInBounds_toArray, List.set_cons_zero, List.set_cons_succ]
  refine wpAnyH_take (i := 6) (oi := { dst := some 9, op := Op.fieldAddr 34 (Operand.tmp 1) 4, type := 0, pos := "law.go:15", after := #[], guard := none }) (v := (.pointer (some ⟨w.heap.size, 35, none⟩))) rfl (by kernel_rfl) (by kernel_rfl) (by kernel_rfl) (fun _ _ _ h => h) (Or.inl ⟨by rfl, fun W' hSw => by clear hSw; go_simp⟩) hH0 ?_
  try simp only [Act.put, List.setIfInBounds_toArray, List.set_cons_zero, List.set_cons_succ]
  refine wpAnyH_take (i := 7) (oi := { dst := some 10, op := Op.load 3 (Operand.tmp 9), type := 3, pos := "law.go:15", after := #[{ on := 6, ground := Ground.data }], guard := none }) (v := (.int .i64 d)) rfl (by kernel_rfl) (by kernel_rfl) (by kernel_rfl) (fun _ _ _ h => h) (Or.inl ⟨by rfl, fun W' hSw => by have c := KeptM.cell hSw hne'.out c3'.out; clear hSw; go_simp⟩) hH0 ?_
  try simp only [Act.put, List.setIfInBounds_toArray, List.set_cons_zero, List.set_cons_succ]
  refine wpAnyH_take (i := 8) (oi := { dst := some 11, op := Op.fieldAddr 34 (Operand.tmp 1) 5, type := 0, pos := "law.go:15", after := #[], guard := none }) (v := (.pointer (some ⟨w.heap.size, 36, none⟩))) rfl (by kernel_rfl) (by kernel_rfl) (by kernel_rfl) (fun _ _ _ h => h) (Or.inl ⟨by rfl, fun W' hSw => by clear hSw; go_simp⟩) hH0 ?_
  try simp only [Act.put, List.setIfInBounds_toArray, List.set_cons_zero, List.set_cons_succ]
  refine wpAnyH_take (i := 9) (oi := { dst := some 12, op := Op.load 9 (Operand.tmp 11), type := 9, pos := "law.go:15", after := #[{ on := 8, ground := Ground.data }], guard := none }) (v := (.string sj)) rfl (by kernel_rfl) (by kernel_rfl) (by kernel_rfl) (fun _ _ _ h => h) (Or.inl ⟨by rfl, fun W' hSw => by have c := KeptM.cell hSw hne'.out c4'.out; clear hSw; go_simp⟩) hH0 ?_
  try simp only [Act.put, List.setIfInBounds_toArray, List.set_cons_zero, List.set_cons_succ]
  refine wpAnyH_take (i := 11) (oi := { dst := some 14, op := Op.fieldAddr 34 (Operand.tmp 1) 6, type := 0, pos := "law.go:15", after := #[], guard := none }) (v := (.pointer (some ⟨w.heap.size, 37, none⟩))) rfl (by kernel_rfl) (by kernel_rfl) (by kernel_rfl) (fun _ _ _ h => h) (Or.inl ⟨by rfl, fun W' hSw => by clear hSw; go_simp⟩) hH0 ?_
  try simp only [Act.put, List.setIfInBounds_toArray, List.set_cons_zero, List.set_cons_succ]
  refine wpAnyH_take (i := 12) (oi := { dst := some 15, op := Op.load 32 (Operand.tmp 14), type := 32, pos := "law.go:15", after := #[{ on := 11, ground := Ground.data }], guard := none }) (v := rv) rfl (by kernel_rfl) (by kernel_rfl) (by kernel_rfl) (fun _ _ _ h => h) (Or.inl ⟨by rfl, fun W' hSw => by have c := KeptM.cell hSw hne'.out c5'.out; clear hSw; go_simp⟩) hH0 ?_
  try simp only [Act.put, List.setIfInBounds_toArray, List.set_cons_zero, List.set_cons_succ]
  refine wpAnyH_take (i := 14) (oi := { dst := some 17, op := Op.fieldAddr 34 (Operand.tmp 1) 7, type := 0, pos := "law.go:15", after := #[], guard := none }) (v := (.pointer (some ⟨w.heap.size, 38, none⟩))) rfl (by kernel_rfl) (by kernel_rfl) (by kernel_rfl) (fun _ _ _ h => h) (Or.inl ⟨by rfl, fun W' hSw => by clear hSw; go_simp⟩) hH0 ?_
  try simp only [Act.put, List.setIfInBounds_toArray, List.set_cons_zero, List.set_cons_succ]
  refine wpAnyH_take (i := 15) (oi := { dst := some 18, op := Op.load 3 (Operand.tmp 17), type := 3, pos := "law.go:15", after := #[{ on := 14, ground := Ground.data }], guard := none }) (v := (.int .i64 b)) rfl (by kernel_rfl) (by kernel_rfl) (by kernel_rfl) (fun _ _ _ h => h) (Or.inl ⟨by rfl, fun W' hSw => by have c := KeptM.cell hSw hne'.out c6'.out; clear hSw; go_simp⟩) hH0 ?_
  try simp only [Act.put, List.setIfInBounds_toArray, List.set_cons_zero, List.set_cons_succ]
  refine wpAnyH_ready (rs := [10]) (by kernel_rfl) (by simp) ?_
  refine AllReadyH.cons (o := { dst := some 13, op := Op.buildSlice 32 0 #[], type := 32, pos := "law.go:15", after := #[], guard := none }) rfl (fun K hK => ?_) AllReadyH.nil
  go_simp
  obtain ⟨V1, hV1⟩ : ∃ V1, V1 = (W.alloc (.cells #[] 31)).drew := ⟨_, rfl⟩
  have hb1 : Below W.drew.heap.size W.drew V1 := by rw [hV1]; exact (Below.refl W.drew.heap.size W.drew).alloc (Nat.le_refl _) (.cells #[] 31)
  have ho1 : V1.ownsRow W.heap.size 31 32 (.slice (some ⟨W.heap.size, 0, none⟩) 0 0) 0 [] := by rw [hV1]; exact own_empty (heap_alloc_new W _) (Nat.le_refl _)
  have hH1 := hH0.below hb1
  have hz1 := hz0.kept hb1
  have hs1 := hs0.below hb1
  have hv1 : W.heap.size ≤ V1.heap.size := hb1.size
  have e1 : (W.alloc (.cells #[] 31)).drew = V1 := hV1.symm
  try rw [e1]
  refine hK.out _ _ hH1 (fun _ => ?_)
  clear hK hV1 hb1 e1
  try simp only [Act.put, List.setIfInBounds_toArray, List.set_cons_zero, List.set_cons_succ]
  refine wpAnyH_ready (rs := [13]) (by kernel_rfl) (by simp) ?_
  refine AllReadyH.cons (o := { dst := some 16, op := Op.call { callee := Callee.builtin Builtin.append, args := #[Operand.tmp 13, Operand.tmp 15], argTypes := #[32, 32] }, type := 32, pos := "law.go:15", after := #[{ on := 10, ground := Ground.data }, { on := 12, ground := Ground.data }], guard := none }) rfl (fun K hK => ?_) AllReadyH.nil
  refine step_append_src V1 (by rfl) _ _ 32 (by rfl) W.heap.size 31 i0 zid 32 32 Tryz.underlying32 hi'.out hz0'.out hz1'.out hz2'.out hzs (by decide) (.slice (some ⟨W.heap.size, 0, none⟩) 0 0) 0 [] (by rfl) ho1 rv r ys (by rfl) hs1 hone'.out (by unfold maxLen; omega) (by omega) hv1 ?_
  intro v2 V2 ho2 hg2 _
  rw [List.nil_append, Nat.zero_add] at ho2
  have hH2 := hH1.grownNew hg2 (fun j hj => (ho1.lt j hj).1) ⟨hlast'.out, rfl⟩
  have hz2 := hz1.grown hg2 (fun e => by have h1 := (ho1.lt _ e.symm).1; have h2 := hlast'.out; omega)
  refine hK.out _ _ hH2 (fun _ => ?_)
  clear hK
  try simp only [Act.put, List.setIfInBounds_toArray, List.set_cons_zero, List.set_cons_succ]
  have hv2one : v2.oneCell' = true := by rcases ho2.2 with ⟨rfl, _⟩ | ⟨_, _, _, rfl, _⟩ <;> rfl
  obtain ⟨A2, k2, rfl⟩ : ∃ A k, v2 = .slice A r k := by rcases ho2.2 with ⟨rfl, h0⟩ | ⟨_, _, _, rfl, _⟩ <;> first | exact ⟨_, _, rfl⟩ | (subst h0; exact ⟨_, _, rfl⟩)
  refine wpAnyH_take (i := 16) (oi := { dst := some 19, op := Op.build 44 #[(0, Operand.tmp 4), (1, Operand.tmp 6), (2, Operand.tmp 8), (3, Operand.tmp 10), (4, Operand.tmp 12), (5, Operand.tmp 16), (6, Operand.tmp 18)], type := 44, pos := "law.go:15", after := #[{ on := 1, ground := Ground.data }, { on := 3, ground := Ground.data }, { on := 5, ground := Ground.data }, { on := 7, ground := Ground.data }, { on := 9, ground := Ground.data }, { on := 13, ground := Ground.data }, { on := 15, ground := Ground.data }], guard := none }) (v := (.agg (.int .i64 n :: i1 :: i2 :: i3 :: i4 :: i5 :: i6 :: i7 :: i8 :: i9 :: i10 :: i11 :: i12 :: i13 :: i14 :: i15 :: i16 :: i17 :: i18 :: i19 :: i20 :: i21 :: i22 :: i23 :: i24 :: i25 :: i26 :: i27 :: i28 :: i29 :: i30 :: i31 :: i32 :: .string nm :: .int .i64 d :: .string sj :: .slice A2 r k2 :: .int .i64 b :: []).toArray)) rfl (by kernel_rfl) (by kernel_rfl) (by kernel_rfl) (fun _ _ _ h => h) (Or.inl ⟨by rfl, fun W' hSw => by have hb := Tryz.build_own n i1 i2 i3 i4 i5 i6 i7 i8 i9 i10 i11 i12 i13 i14 i15 i16 i17 i18 i19 i20 i21 i22 i23 i24 i25 i26 i27 i28 i29 i30 i31 i32 nm d sj A2 r k2 b W'; clear hSw; go_simp⟩) hH2 ?_
  try simp only [Act.put, List.setIfInBounds_toArray, List.set_cons_zero, List.set_cons_succ]
  refine wpAnyH_ready (rs := [17]) (by kernel_rfl) (by simp) ?_
  refine AllReadyH.cons (o := { dst := none, op := Op.store 44 (Operand.tmp 2) (Operand.tmp 19), type := 0, pos := "law.go:15", after := #[{ on := 16, ground := Ground.data }, { on := 13, ground := Ground.chain }, { on := 0, ground := Ground.phase }, { on := 1, ground := Ground.phase }, { on := 2, ground := Ground.phase }, { on := 3, ground := Ground.phase }, { on := 4, ground := Ground.phase }, { on := 5, ground := Ground.phase }, { on := 6, ground := Ground.phase }, { on := 7, ground := Ground.phase }, { on := 8, ground := Ground.phase }, { on := 9, ground := Ground.phase }, { on := 10, ground := Ground.phase }, { on := 11, ground := Ground.phase }, { on := 12, ground := Ground.phase }, { on := 13, ground := Ground.phase }, { on := 14, ground := Ground.phase }, { on := 15, ground := Ground.phase }, { on := 16, ground := Ground.phase }], guard := none }) rfl (fun K hK => ?_) AllReadyH.nil
  rw [if_pos (by rfl)]
  obtain ⟨old, hold1, hold2⟩ := hz2
  have hall := all_oneCell_toArray (line_one n i1 i2 i3 i4 i5 i6 i7 i8 i9 i10 i11 i12 i13 i14 i15 i16 i17 i18 i19 i20 i21 i22 i23 i24 i25 i26 i27 i28 i29 i30 i31 i32 nm d sj (.slice A2 r k2) b hi32'.out rfl)
  refine wp_store_row 44 _ _ rfl (w.heap.size + 1) _ rfl rfl 44 old hold1 (by kernel_rfl) hold2 hall ?_
  have hH3 := hH2.setM (cs := (.int .i64 n :: i1 :: i2 :: i3 :: i4 :: i5 :: i6 :: i7 :: i8 :: i9 :: i10 :: i11 :: i12 :: i13 :: i14 :: i15 :: i16 :: i17 :: i18 :: i19 :: i20 :: i21 :: i22 :: i23 :: i24 :: i25 :: i26 :: i27 :: i28 :: i29 :: i30 :: i31 :: i32 :: .string nm :: .int .i64 d :: .string sj :: .slice A2 r k2 :: .int .i64 b :: []).toArray)
  refine hK.out _ _ hH3 (fun _ => ?_)
  clear hK
  try simp only [Act.put, List.setIfInBounds_toArray, List.set_cons_zero, List.set_cons_succ]
  refine wpAnyH_done (by kernel_rfl) ?_ _
  refine NoPanic.normal ?_
  obtain ⟨V3, hV3⟩ : ∃ V3, V3 = V2.setRow (w.heap.size + 1) (.int .i64 n :: i1 :: i2 :: i3 :: i4 :: i5 :: i6 :: i7 :: i8 :: i9 :: i10 :: i11 :: i12 :: i13 :: i14 :: i15 :: i16 :: i17 :: i18 :: i19 :: i20 :: i21 :: i22 :: i23 :: i24 :: i25 :: i26 :: i27 :: i28 :: i29 :: i30 :: i31 :: i32 :: .string nm :: .int .i64 d :: .string sj :: .slice A2 r k2 :: .int .i64 b :: []).toArray := ⟨_, rfl⟩
  have hfin : V3.heap[w.heap.size + 1]? = some (.cells (.int .i64 n :: i1 :: i2 :: i3 :: i4 :: i5 :: i6 :: i7 :: i8 :: i9 :: i10 :: i11 :: i12 :: i13 :: i14 :: i15 :: i16 :: i17 :: i18 :: i19 :: i20 :: i21 :: i22 :: i23 :: i24 :: i25 :: i26 :: i27 :: i28 :: i29 :: i30 :: i31 :: i32 :: .string nm :: .int .i64 d :: .string sj :: .slice A2 r k2 :: .int .i64 b :: []).toArray 44 (0, 0)) := by rw [hV3]; exact setRow_heap _ _ old _ _ _ hold1
  have hrow : V3.ownsRow W.heap.size 31 32 (.slice A2 r k2) r ys := by
    rw [hV3]
    exact ownsRow_setOther ho2 (fun e => by have h1 := (ho2.lt _ e).1; have h2 := hlast'.out; omega)
  rw [← hV3] at hH3 ⊢
  have hfin' := Lib.hid hfin
  have hrow' := Lib.hid hrow
  have hH3' := Lib.hid hH3
  clear hfin hrow hH0 hH1 hH2 hH3 hz0 hz1 hs0 hs1 ho1 ho2 hg2 hold1 hold2 hV3 hall
  go_wp2_with fail
  refine bodyPost_ret (v := .agg (.int .i64 n :: i1 :: i2 :: i3 :: i4 :: i5 :: i6 :: i7 :: i8 :: i9 :: i10 :: i11 :: i12 :: i13 :: i14 :: i15 :: i16 :: i17 :: i18 :: i19 :: i20 :: i21 :: i22 :: i23 :: i24 :: i25 :: i26 :: i27 :: i28 :: i29 :: i30 :: i31 :: i32 :: .string nm :: .int .i64 d :: .string sj :: .slice A2 r k2 :: .int .i64 b :: []).toArray) (results_cell_row Tryz.results27 _ _ (w.heap.size + 1) _ _ _ _ rfl hfin'.out Tryz.underlying44 rfl (by kernel_rfl)) rfl ⟨_, rfl, ?_, ?_⟩
  · exact ownsRow_base hrow'.out (by have := hlast'.out; omega)
  · exact ⟨hH3'.out.os.trans hb0'.out.os, hH3'.out.tape.trans hb0'.out.tape, hH3'.out.output.trans hb0'.out.output, Nat.le_trans hb0'.out.size hH3'.out.size, fun j hj => (hH3'.out.block j (by have := hb0'.out.size; omega) (by omega)).trans (hb0'.out.block j hj)⟩
end Go.Proofs.YtnniijnfkbkdcaaGreatDoor
