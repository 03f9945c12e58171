/- The contract of Print (overview) where no references are listed. (Printed by wip/gen_o5.py.) -/
import Derived.Test.YtnniijnfkbkdcaaGreatDoorO4
import Derived.Lib.ItoaLen
import Derived.Lib.SmallJoins
namespace Go.Proofs.YtnniijnfkbkdcaaGreatDoor
open Go Go.RowKit Go.Proofs
open Go.Sort (grow)
set_option linter.unusedSimpArgs false
set_option linter.unusedVariables false

theorem below_grow (w : World) (k : Nat) (os : Array Obj) : Below w.heap.size w (grow (w.drewN k) os) :=
  ⟨rfl, rfl, rfl, by simp [grow], fun i hi => by
    show (w.heap ++ os)[i]? = w.heap[i]?
    rw [Array.getElem?_append_left hi]⟩
/-- the table that numbers are printed by -/
def Tab (w : World) : Prop := Lib.TabIs Tryz.prog w "internal/strconv.uint64pow10" .u64 Lib.pow10Tab
theorem Tab.below {w w' : World} (h : Tab w) (hb : Below w.heap.size w w') : Tab w' := Joins.tab_stays (g := 1) (by kernel_rfl) h hb (Nat.le_refl _)
theorem itoa_any (n : Int) (w : World) (hT : Tab w) (h0 : -9223372036854775808 ≤ n) (h1 : n ≤ 9223372036854775807) : Calls Tryz.prog 68 #[.int .i64 n] w fun e w' => e = .returned (bytesV (Lib.itoa n)) ∧ Below w.heap.size w w' :=
  (Tryz.strconv_Itoa n h0 h1 w hT).mono fun _ _ ⟨he, k, os, hw⟩ => ⟨he, by rw [hw]; exact below_grow w k os⟩
theorem firstErr_zero : ∀ {es : List Int}, firstErr es = 0 → ∀ e ∈ es, e = 0
  | e :: r, h, x, hx => by
    unfold firstErr at h
    split at h
    · rcases List.mem_cons.1 hx with rfl | hx
      · assumption
      · exact firstErr_zero h x hx
    · exact absurd h (by assumption)
theorem errs_ok {n : Int} {nm : ByteArray} {d : Int} {sj : ByteArray} {er b : Int} (h : firstErr (errs n nm d sj er b) = 0) : (1 ≤ n ∧ n ≤ 2147483646) ∧ nm.size ≤ 60 ∧ (0 ≤ d ∧ d ≤ 105190559) ∧ sj.size ≤ 200 ∧ er = 0 ∧ (0 ≤ b ∧ b ≤ 65536) := by
  have h := firstErr_zero h
  unfold errs at h
  have h0 := h (inErr n 1 2147483646 2) (by simp)
  have h1 := h (txtErr nm 60) (by simp)
  have h2 := h (inErr d 0 105190559 13) (by simp)
  have h3 := h (txtErr sj 200) (by simp)
  have h4 := h er (by simp)
  have h5 := h (inErr b 0 65536 2) (by simp)
  unfold inErr at h0 h2 h5
  unfold txtErr at h1 h3
  refine ⟨?_, ?_, ?_, ?_, h4, ?_⟩
  · split at h0 <;> omega
  · split at h1 <;> omega
  · split at h2 <;> omega
  · split at h3 <;> omega
  · split at h5 <;> omega
def lineText (n : Int) (id : List UInt8) (nm : ByteArray) (d : Int) (sj : ByteArray) (rs : List UInt8) (b : Int) : List UInt8 := Lib.join [Lib.itoa n, hexL id, nm.data.toList, Lib.itoa d, sj.data.toList, rs, Lib.itoa b] [9]
theorem join7_len (a0 a1 a2 a3 a4 a5 a6 : List UInt8) : (Lib.join [a0, a1, a2, a3, a4, a5, a6] [9]).length = a0.length + a1.length + a2.length + a3.length + a4.length + a5.length + a6.length + 6 := by
  simp [Lib.join, List.intercalate, List.intersperse]; omega
theorem cells_new7 (w : World) (a0 a1 : List UInt8) (a2 : ByteArray) (a3 : List UInt8) (a4 : ByteArray) (a6 : List UInt8) : ∀ (j : Nat) (x : ByteArray), ([⟨a0.toArray⟩, ⟨a1.toArray⟩, a2, ⟨a3.toArray⟩, a4, ⟨#[]⟩, ⟨a6.toArray⟩] : List ByteArray)[j]? = some x →
    (w.alloc (.cells #[bytesV a0, bytesV a1, .string a2, bytesV a3, .string a4, .string ⟨#[]⟩, bytesV a6] 9)).cell? ⟨w.heap.size, 0 + j, none⟩ = some (.string x) := fun j x hx => by
  rw [Nat.zero_add]
  refine cells_at (cs := [bytesV a0, bytesV a1, .string a2, bytesV a3, .string a4, .string ⟨#[]⟩, bytesV a6]) (heap_alloc_new w _) j _ ?_
  have : ([bytesV a0, bytesV a1, .string a2, bytesV a3, .string a4, .string ⟨#[]⟩, bytesV a6] : List Value) = ([⟨a0.toArray⟩, ⟨a1.toArray⟩, a2, ⟨a3.toArray⟩, a4, ⟨#[]⟩, ⟨a6.toArray⟩] : List ByteArray).map Value.string := rfl
  rw [this, List.getElem?_map, hx]; rfl
set_option maxHeartbeats 3200000 in
set_option maxRecDepth 100000 in
theorem print_none (n : Int) (i1 i2 i3 i4 i5 i6 i7 i8 i9 i10 i11 i12 i13 i14 i15 i16 i17 i18 i19 i20 i21 i22 i23 i24 i25 i26 i27 i28 i29 i30 i31 i32 : Value) (id : List UInt8) (hid : i1 :: i2 :: i3 :: i4 :: i5 :: i6 :: i7 :: i8 :: i9 :: i10 :: i11 :: i12 :: i13 :: i14 :: i15 :: i16 :: i17 :: i18 :: i19 :: i20 :: i21 :: i22 :: i23 :: i24 :: i25 :: i26 :: i27 :: i28 :: i29 :: i30 :: i31 :: i32 :: [] = byteVals id) (nm : ByteArray) (d : Int) (sj : ByteArray) (b : Int) (w : World) (hT : Tab w)
    (hck : firstErr (errs n nm d sj 0 b) = 0) :
    Calls Tryz.prog 44 #[.agg (.int .i64 n :: i1 :: i2 :: i3 :: i4 :: i5 :: i6 :: i7 :: i8 :: i9 :: i10 :: i11 :: i12 :: i13 :: i14 :: i15 :: i16 :: i17 :: i18 :: i19 :: i20 :: i21 :: i22 :: i23 :: i24 :: i25 :: i26 :: i27 :: i28 :: i29 :: i30 :: i31 :: i32 :: .string nm :: .int .i64 d :: .string sj :: .slice none 0 0 :: .int .i64 b :: []).toArray] w fun e w' => e = .returned (.tuple #[bytesV (lineText n id nm d sj [] b), .int .i64 0]) ∧ Below w.heap.size w w' := by
  obtain ⟨⟨hn1, hn2⟩, hnm, ⟨hd1, hd2⟩, hsj, _, hb1, hb2⟩ := errs_ok hck
  have hl : id.length = 32 := by have := congrArg List.length hid; simpa [byteVals] using this.symm
  obtain ⟨W, hW⟩ : ∃ W, W = w.alloc (.cells (.int .i64 n :: i1 :: i2 :: i3 :: i4 :: i5 :: i6 :: i7 :: i8 :: i9 :: i10 :: i11 :: i12 :: i13 :: i14 :: i15 :: i16 :: i17 :: i18 :: i19 :: i20 :: i21 :: i22 :: i23 :: i24 :: i25 :: i26 :: i27 :: i28 :: i29 :: i30 :: i31 :: i32 :: .string nm :: .int .i64 d :: .string sj :: .slice none 0 0 :: .int .i64 b :: []).toArray 44) := ⟨_, rfl⟩
  have hb0 : Below w.heap.size w W := by rw [hW]; exact (Below.refl _ w).alloc (Nat.le_refl _) _
  have hs0 : W.heap.size = w.heap.size + 1 := by rw [hW]; simp
  have hq : W.heap[w.heap.size]? = some (.cells (.int .i64 n :: i1 :: i2 :: i3 :: i4 :: i5 :: i6 :: i7 :: i8 :: i9 :: i10 :: i11 :: i12 :: i13 :: i14 :: i15 :: i16 :: i17 :: i18 :: i19 :: i20 :: i21 :: i22 :: i23 :: i24 :: i25 :: i26 :: i27 :: i28 :: i29 :: i30 :: i31 :: i32 :: .string nm :: .int .i64 d :: .string sj :: .slice none 0 0 :: .int .i64 b :: []).toArray 44 (0, 0)) := by rw [hW]; exact heap_alloc_new _ _
  have hckc := check_line n i1 i2 i3 i4 i5 i6 i7 i8 i9 i10 i11 i12 i13 i14 i15 i16 i17 i18 i19 i20 i21 i22 i23 i24 i25 i26 i27 i28 i29 i30 i31 i32 nm d sj (.slice none 0 0) b 0 W (by omega) (by omega) (fun W' _ => (refs_none none 0 W').mono fun e w' ⟨h1, h2⟩ => ⟨h1, by rw [← h2]; exact Below.refl _ _⟩)
  rw [hck] at hckc
  have hckc' := Lib.hid hckc
  have hW' := Lib.hid hW
  have hb0' := Lib.hid hb0
  have hs0' := Lib.hid hs0
  have hq' := Lib.hid hq
  have hT' := Lib.hid hT
  have hid' := Lib.hid hid
  have hl' := Lib.hid hl
  clear hckc hW hb0 hs0 hq hT hid hl hck
  go_enter Tryz.func44, Tryz.ntmps44
  go_wp2_with (refine wpList_load_row rfl 44 _ rfl w.heap.size rfl _ _ _ _ (heap_alloc_new _ _) Tryz.underlying44 rfl rfl ?_)
  go_at_call 45
  rw [← hW'.out]
  refine hckc'.out.mono ?_
  rintro e w1 ⟨rfl, hbw⟩
  have hq1 : w1.heap[w.heap.size]? = some (.cells (.int .i64 n :: i1 :: i2 :: i3 :: i4 :: i5 :: i6 :: i7 :: i8 :: i9 :: i10 :: i11 :: i12 :: i13 :: i14 :: i15 :: i16 :: i17 :: i18 :: i19 :: i20 :: i21 :: i22 :: i23 :: i24 :: i25 :: i26 :: i27 :: i28 :: i29 :: i30 :: i31 :: i32 :: .string nm :: .int .i64 d :: .string sj :: .slice none 0 0 :: .int .i64 b :: []).toArray 44 (0, 0)) := (hbw.block _ (by have := hs0'.out; omega)).trans hq'.out
  have hbw1 := Lib.hid (hb0'.out.trans (hbw.mono hb0'.out.size))
  have g0 : w.heap.size < w1.heap.size := (Array.getElem?_eq_some_iff.1 hq1).1
  have c0 := cells_at hq1 0 _ rfl
  have c1 := cells_at hq1 33 _ rfl
  have c2 := cells_at hq1 34 _ rfl
  have c3 := cells_at hq1 35 _ rfl
  have c4 := cells_at hq1 36 _ rfl
  have c5 := cells_at hq1 37 _ rfl
  have hidr : w1.rangeAt w.heap.size 1 (i1 :: i2 :: i3 :: i4 :: i5 :: i6 :: i7 :: i8 :: i9 :: i10 :: i11 :: i12 :: i13 :: i14 :: i15 :: i16 :: i17 :: i18 :: i19 :: i20 :: i21 :: i22 :: i23 :: i24 :: i25 :: i26 :: i27 :: i28 :: i29 :: i30 :: i31 :: i32 :: []) := fun j v hj => by
    refine cells_at hq1 (1 + j) v ?_
    have hj32 : j < 32 := (List.getElem?_eq_some_iff.1 hj).1
    rw [Nat.add_comm, List.getElem?_cons_succ]
    exact (List.getElem?_append_left (l₂ := .string nm :: .int .i64 d :: .string sj :: .slice none 0 0 :: .int .i64 b :: []) hj32).trans hj
  have c0' := Lib.hid c0
  have c1' := Lib.hid c1
  have c2' := Lib.hid c2
  have c3' := Lib.hid c3
  have c5' := Lib.hid c5
  have hidr' := Lib.hid hidr
  clear hbw hq1 c0 c1 c2 c3 c5 hidr hckc' hW' hq'
  go_wp2_with fail
  clear c4
  go_loopw [5, 7, 16] (fun r _ i wr => r = .slice none 0 0 ∧ i = .int .i64 ((0 : Nat) : Int) ∧ w1 = wr) (fun _ _ _ _ => 0)
  case atStart => exact ⟨rfl, rfl, rfl⟩
  case round =>
    obtain ⟨rfl, rfl, rfl⟩ := hrel
    go_wp2_with fail
    refine wp_region_noPanic ?_
    have hH0 := (Below.refl w1.heap.size w1).drew
    refine wp_region_held_drew (S := (fun W' => Below w1.heap.size w1 W')) (by kernel_rfl) hH0 (fun _ => ?_)
    refine wpAnyH_take (i := 0) (oi := { dst := some 26, op := Op.fieldAddr 44 (Operand.tmp 1) 0, type := 0, pos := "overview.go:159", after := #[], guard := none }) (v := (.pointer (some ⟨w.heap.size, 0, none⟩))) rfl (by kernel_rfl) (by kernel_rfl) (by kernel_rfl) (fun _ _ _ h => h) (Or.inl ⟨by rfl, fun w' hSw => by clear hSw; go_simp⟩) hH0 ?_
    try simp only [Act.put, List.setIfInBounds_toArray, List.set_cons_zero, List.set_cons_succ]
    refine wpAnyH_take (i := 1) (oi := { dst := some 27, op := Op.load 3 (Operand.tmp 26), type := 3, pos := "overview.go:159", after := #[{ on := 0, ground := Ground.data }], guard := none }) (v := (.int .i64 n)) rfl (by kernel_rfl) (by kernel_rfl) (by kernel_rfl) (fun _ _ _ h => h) (Or.inl ⟨by rfl, fun w' hSw => by have c := (Below.cell (p := ⟨w.heap.size, 0, none⟩) hSw g0).trans c0'.out; clear hSw; go_simp⟩) hH0 ?_
    try simp only [Act.put, List.setIfInBounds_toArray, List.set_cons_zero, List.set_cons_succ]
    refine wpAnyH_take (i := 3) (oi := { dst := some 29, op := Op.fieldAddr 44 (Operand.tmp 1) 1, type := 0, pos := "overview.go:159", after := #[], guard := none }) (v := (.pointer (some ⟨w.heap.size, 1, none⟩))) rfl (by kernel_rfl) (by kernel_rfl) (by kernel_rfl) (fun _ _ _ h => h) (Or.inl ⟨by rfl, fun w' hSw => by clear hSw; go_simp⟩) hH0 ?_
    try simp only [Act.put, List.setIfInBounds_toArray, List.set_cons_zero, List.set_cons_succ]
    refine wpAnyH_take (i := 4) (oi := { dst := some 30, op := Op.load 31 (Operand.tmp 29), type := 31, pos := "overview.go:159", after := #[{ on := 3, ground := Ground.data }], guard := none }) (v := (.agg (i1 :: i2 :: i3 :: i4 :: i5 :: i6 :: i7 :: i8 :: i9 :: i10 :: i11 :: i12 :: i13 :: i14 :: i15 :: i16 :: i17 :: i18 :: i19 :: i20 :: i21 :: i22 :: i23 :: i24 :: i25 :: i26 :: i27 :: i28 :: i29 :: i30 :: i31 :: i32 :: []).toArray)) rfl (by kernel_rfl) (by kernel_rfl) (by kernel_rfl) (fun _ _ _ h => h) (yieldsIf_load_mid (by rfl) _ _ rfl w.heap.size 1 rfl (i1 :: i2 :: i3 :: i4 :: i5 :: i6 :: i7 :: i8 :: i9 :: i10 :: i11 :: i12 :: i13 :: i14 :: i15 :: i16 :: i17 :: i18 :: i19 :: i20 :: i21 :: i22 :: i23 :: i24 :: i25 :: i26 :: i27 :: i28 :: i29 :: i30 :: i31 :: i32 :: []) _ (fun W' hW j v hj => (Below.cell (p := ⟨w.heap.size, _, none⟩) hW g0).trans (hidr'.out j v hj)) Tryz.underlying31 rfl (by kernel_rfl)) hH0 ?_
    try simp only [Act.put, List.setIfInBounds_toArray, List.set_cons_zero, List.set_cons_succ]
    refine wpAnyH_take (i := 6) (oi := { dst := some 32, op := Op.fieldAddr 44 (Operand.tmp 1) 2, type := 0, pos := "overview.go:159", after := #[], guard := none }) (v := (.pointer (some ⟨w.heap.size, 33, none⟩))) rfl (by kernel_rfl) (by kernel_rfl) (by kernel_rfl) (fun _ _ _ h => h) (Or.inl ⟨by rfl, fun w' hSw => by clear hSw; go_simp⟩) hH0 ?_
    try simp only [Act.put, List.setIfInBounds_toArray, List.set_cons_zero, List.set_cons_succ]
    refine wpAnyH_take (i := 7) (oi := { dst := some 33, op := Op.load 9 (Operand.tmp 32), type := 9, pos := "overview.go:159", after := #[{ on := 6, ground := Ground.data }], guard := none }) (v := (.string nm)) rfl (by kernel_rfl) (by kernel_rfl) (by kernel_rfl) (fun _ _ _ h => h) (Or.inl ⟨by rfl, fun w' hSw => by have c := (Below.cell (p := ⟨w.heap.size, 33, none⟩) hSw g0).trans c1'.out; clear hSw; go_simp⟩) hH0 ?_
    try simp only [Act.put, List.setIfInBounds_toArray, List.set_cons_zero, List.set_cons_succ]
    refine wpAnyH_take (i := 8) (oi := { dst := some 34, op := Op.fieldAddr 44 (Operand.tmp 1) 3, type := 0, pos := "overview.go:159", after := #[], guard := none }) (v := (.pointer (some ⟨w.heap.size, 34, none⟩))) rfl (by kernel_rfl) (by kernel_rfl) (by kernel_rfl) (fun _ _ _ h => h) (Or.inl ⟨by rfl, fun w' hSw => by clear hSw; go_simp⟩) hH0 ?_
    try simp only [Act.put, List.setIfInBounds_toArray, List.set_cons_zero, List.set_cons_succ]
    refine wpAnyH_take (i := 9) (oi := { dst := some 35, op := Op.load 3 (Operand.tmp 34), type := 3, pos := "overview.go:159", after := #[{ on := 8, ground := Ground.data }], guard := none }) (v := (.int .i64 d)) rfl (by kernel_rfl) (by kernel_rfl) (by kernel_rfl) (fun _ _ _ h => h) (Or.inl ⟨by rfl, fun w' hSw => by have c := (Below.cell (p := ⟨w.heap.size, 34, none⟩) hSw g0).trans c2'.out; clear hSw; go_simp⟩) hH0 ?_
    try simp only [Act.put, List.setIfInBounds_toArray, List.set_cons_zero, List.set_cons_succ]
    refine wpAnyH_take (i := 11) (oi := { dst := some 37, op := Op.fieldAddr 44 (Operand.tmp 1) 4, type := 0, pos := "overview.go:159", after := #[], guard := none }) (v := (.pointer (some ⟨w.heap.size, 35, none⟩))) rfl (by kernel_rfl) (by kernel_rfl) (by kernel_rfl) (fun _ _ _ h => h) (Or.inl ⟨by rfl, fun w' hSw => by clear hSw; go_simp⟩) hH0 ?_
    try simp only [Act.put, List.setIfInBounds_toArray, List.set_cons_zero, List.set_cons_succ]
    refine wpAnyH_take (i := 12) (oi := { dst := some 38, op := Op.load 9 (Operand.tmp 37), type := 9, pos := "overview.go:159", after := #[{ on := 11, ground := Ground.data }], guard := none }) (v := (.string sj)) rfl (by kernel_rfl) (by kernel_rfl) (by kernel_rfl) (fun _ _ _ h => h) (Or.inl ⟨by rfl, fun w' hSw => by have c := (Below.cell (p := ⟨w.heap.size, 35, none⟩) hSw g0).trans c3'.out; clear hSw; go_simp⟩) hH0 ?_
    try simp only [Act.put, List.setIfInBounds_toArray, List.set_cons_zero, List.set_cons_succ]
    refine wpAnyH_take (i := 13) (oi := { dst := some 39, op := Op.move (Operand.tmp 5), type := 68, pos := "overview.go:159", after := #[], guard := none }) (v := (.slice none 0 0)) rfl (by kernel_rfl) (by kernel_rfl) (by kernel_rfl) (fun _ _ _ h => h) (Or.inl ⟨by rfl, fun w' hSw => by clear hSw; go_simp⟩) hH0 ?_
    try simp only [Act.put, List.setIfInBounds_toArray, List.set_cons_zero, List.set_cons_succ]
    refine wpAnyH_take (i := 15) (oi := { dst := some 41, op := Op.fieldAddr 44 (Operand.tmp 1) 6, type := 0, pos := "overview.go:159", after := #[], guard := none }) (v := (.pointer (some ⟨w.heap.size, 37, none⟩))) rfl (by kernel_rfl) (by kernel_rfl) (by kernel_rfl) (fun _ _ _ h => h) (Or.inl ⟨by rfl, fun w' hSw => by clear hSw; go_simp⟩) hH0 ?_
    try simp only [Act.put, List.setIfInBounds_toArray, List.set_cons_zero, List.set_cons_succ]
    refine wpAnyH_take (i := 16) (oi := { dst := some 42, op := Op.load 3 (Operand.tmp 41), type := 3, pos := "overview.go:159", after := #[{ on := 15, ground := Ground.data }], guard := none }) (v := (.int .i64 b)) rfl (by kernel_rfl) (by kernel_rfl) (by kernel_rfl) (fun _ _ _ h => h) (Or.inl ⟨by rfl, fun w' hSw => by have c := (Below.cell (p := ⟨w.heap.size, 37, none⟩) hSw g0).trans c5'.out; clear hSw; go_simp⟩) hH0 ?_
    try simp only [Act.put, List.setIfInBounds_toArray, List.set_cons_zero, List.set_cons_succ]
    refine wpAnyH_ready (rs := [2]) (by kernel_rfl) (by simp) ?_
    refine AllReadyH.cons (o := { dst := some 28, op := Op.call { callee := Callee.value (Operand.func 68), args := #[Operand.tmp 27], argTypes := #[3] }, type := 9, pos := "overview.go:159", after := #[{ on := 1, ground := Ground.data }], guard := none }) rfl (fun K hK => ?_) AllReadyH.nil
    go_simp
    go_at_call 68
    refine (itoa_any n _ (hT'.out.below (hbw1.out.trans (hH0.mono hbw1.out.size))) (by omega) (by omega)).mono ?_
    rintro e V1 ⟨rfl, hb⟩
    have hH1 : Below w1.heap.size w1 V1 := hH0.trans (hb.mono hH0.size)
    refine hK.out _ _ hH1 (fun _ => ?_)
    clear hK hb
    try simp only [Act.put, List.setIfInBounds_toArray, List.set_cons_zero, List.set_cons_succ]
    refine wpAnyH_ready (rs := [5]) (by kernel_rfl) (by simp) ?_
    refine AllReadyH.cons (o := { dst := some 31, op := Op.call { callee := Callee.value (Operand.func 80), args := #[Operand.tmp 30], argTypes := #[31] }, type := 9, pos := "overview.go:159", after := #[{ on := 4, ground := Ground.data }, { on := 2, ground := Ground.chain }], guard := none }) rfl (fun K hK => ?_) AllReadyH.nil
    go_simp
    go_at_call 80
    refine (hex_any i1 i2 i3 i4 i5 i6 i7 i8 i9 i10 i11 i12 i13 i14 i15 i16 i17 i18 i19 i20 i21 i22 i23 i24 i25 i26 i27 i28 i29 i30 i31 i32 id hid'.out _).mono ?_
    rintro e V2 ⟨rfl, hb⟩
    have hH2 : Below w1.heap.size w1 V2 := hH1.trans (hb.mono hH1.size)
    refine hK.out _ _ hH2 (fun _ => ?_)
    clear hK hb
    try simp only [Act.put, List.setIfInBounds_toArray, List.set_cons_zero, List.set_cons_succ]
    refine wpAnyH_ready (rs := [10]) (by kernel_rfl) (by simp) ?_
    refine AllReadyH.cons (o := { dst := some 36, op := Op.call { callee := Callee.value (Operand.func 68), args := #[Operand.tmp 35], argTypes := #[3] }, type := 9, pos := "overview.go:159", after := #[{ on := 9, ground := Ground.data }, { on := 5, ground := Ground.chain }], guard := none }) rfl (fun K hK => ?_) AllReadyH.nil
    go_simp
    go_at_call 68
    refine (itoa_any d _ (hT'.out.below (hbw1.out.trans (hH2.mono hbw1.out.size))) (by omega) (by omega)).mono ?_
    rintro e V3 ⟨rfl, hb⟩
    have hH3 : Below w1.heap.size w1 V3 := hH2.trans (hb.mono hH2.size)
    refine hK.out _ _ hH3 (fun _ => ?_)
    clear hK hb
    try simp only [Act.put, List.setIfInBounds_toArray, List.set_cons_zero, List.set_cons_succ]
    refine wpAnyH_ready (rs := [14]) (by kernel_rfl) (by simp) ?_
    refine AllReadyH.cons (o := { dst := some 40, op := Op.call { callee := Callee.value (Operand.func 81), args := #[Operand.tmp 39, Operand.const (Value.string { data := #[44] })], argTypes := #[68, 9] }, type := 9, pos := "overview.go:159", after := #[{ on := 13, ground := Ground.data }, { on := 10, ground := Ground.chain }], guard := none }) rfl (fun K hK => ?_) AllReadyH.nil
    go_simp
    go_at_call 81
    refine (Tryz.strings_Join_none none 0 _ _).mono ?_
    rintro e W9 ⟨rfl, rfl⟩
    refine hK.out _ _ hH3 (fun _ => ?_)
    clear hK
    try simp only [Act.put, List.setIfInBounds_toArray, List.set_cons_zero, List.set_cons_succ]
    refine wpAnyH_ready (rs := [17]) (by kernel_rfl) (by simp) ?_
    refine AllReadyH.cons (o := { dst := some 43, op := Op.call { callee := Callee.value (Operand.func 68), args := #[Operand.tmp 42], argTypes := #[3] }, type := 9, pos := "overview.go:159", after := #[{ on := 16, ground := Ground.data }, { on := 14, ground := Ground.chain }], guard := none }) rfl (fun K hK => ?_) AllReadyH.nil
    go_simp
    go_at_call 68
    refine (itoa_any b _ (hT'.out.below (hbw1.out.trans (hH3.mono hbw1.out.size))) (by omega) (by omega)).mono ?_
    rintro e V4 ⟨rfl, hb⟩
    have hH4 : Below w1.heap.size w1 V4 := hH3.trans (hb.mono hH3.size)
    refine hK.out _ _ hH4 (fun _ => ?_)
    clear hK hb
    try simp only [Act.put, List.setIfInBounds_toArray, List.set_cons_zero, List.set_cons_succ]
    refine wpAnyH_ready (rs := [18]) (by kernel_rfl) (by simp) ?_
    refine AllReadyH.cons (o := { dst := some 44, op := Op.buildSlice 68 7 #[(0, Operand.tmp 28), (1, Operand.tmp 31), (2, Operand.tmp 33), (3, Operand.tmp 36), (4, Operand.tmp 38), (5, Operand.tmp 40), (6, Operand.tmp 43)], type := 68, pos := "overview.go:159", after := #[{ on := 2, ground := Ground.data }, { on := 5, ground := Ground.data }, { on := 7, ground := Ground.data }, { on := 10, ground := Ground.data }, { on := 12, ground := Ground.data }, { on := 14, ground := Ground.data }, { on := 17, ground := Ground.data }], guard := none }) rfl (fun K hK => ?_) AllReadyH.nil
    go_simp
    obtain ⟨V5, hV5⟩ : ∃ V5, V5 = V4.alloc (.cells #[bytesV (Lib.itoa n), bytesV (hexL id), .string nm, bytesV (Lib.itoa d), .string sj, .string ⟨#[]⟩, bytesV (Lib.itoa b)] 9) := ⟨_, rfl⟩
    have hcs := cells_new7 V4 (Lib.itoa n) (hexL id) nm (Lib.itoa d) sj (Lib.itoa b)
    rw [← hV5] at hcs
    have hs5 : V5.heap.size = V4.heap.size + 1 := by rw [hV5]; simp
    have hH5 : Below w1.heap.size w1 V5 := by rw [hV5]; exact hH4.alloc hH4.size _
    rw [← hV5]
    refine hK.out _ _ hH5 (fun _ => ?_)
    clear hK hV5
    try simp only [Act.put, List.setIfInBounds_toArray, List.set_cons_zero, List.set_cons_succ]
    have hjl : (Lib.join [Lib.itoa n, hexL id, nm.data.toList, Lib.itoa d, sj.data.toList, [], Lib.itoa b] [9]).length ≤ 1000 := by
      rw [join7_len, hexL_length, hl'.out]
      have a1 := Lib.itoa_length_le n (by omega) (by omega)
      have a2 := Lib.itoa_length_le d (by omega) (by omega)
      have a3 := Lib.itoa_length_le b (by omega) (by omega)
      have a4 : nm.data.toList.length = nm.size := rfl
      have a5 : sj.data.toList.length = sj.size := rfl
      simp only [List.length_nil]; omega
    obtain ⟨J, hJ⟩ : ∃ J, J = lineText n id nm d sj [] b := ⟨_, rfl⟩
    have hj : Calls Tryz.prog 81 #[.slice (some ⟨V4.heap.size, 0, none⟩) 7 7, .string ⟨#[9]⟩] V5 fun e w' => e = .returned (bytesV J) ∧ Below V5.heap.size V5 w' := by
      rw [hJ]
      exact Tryz.strings_Join V4.heap.size 0 7 [⟨(Lib.itoa n).toArray⟩, ⟨(hexL id).toArray⟩, nm, ⟨(Lib.itoa d).toArray⟩, sj, ⟨#[]⟩, ⟨(Lib.itoa b).toArray⟩] ⟨#[9]⟩ V5 hcs (by omega) (by simp) (by simp) (Nat.le_trans hjl (by omega))
    have hj' := Lib.hid hj
    have hJ' := Lib.hid hJ
    clear hj hjl hJ hcs
    refine wpAnyH_ready (rs := [19]) (by kernel_rfl) (by simp) ?_
    refine AllReadyH.cons (o := { dst := some 45, op := Op.call { callee := Callee.value (Operand.func 81), args := #[Operand.tmp 44, Operand.const (Value.string { data := #[9] })], argTypes := #[68, 9] }, type := 9, pos := "overview.go:159", after := #[{ on := 18, ground := Ground.data }, { on := 17, ground := Ground.chain }], guard := none }) rfl (fun K hK => ?_) AllReadyH.nil
    go_simp
    go_at_call 81
    refine hj'.out.mono ?_
    rintro e V6 ⟨rfl, hb⟩
    have hH6 : Below w1.heap.size w1 V6 := hH5.trans (hb.mono hH5.size)
    refine hK.out _ _ hH6 (fun _ => ?_)
    clear hK hb
    try simp only [Act.put, List.setIfInBounds_toArray, List.set_cons_zero, List.set_cons_succ]
    refine wpAnyH_take (i := 20) (oi := { dst := some 2, op := Op.assign (Operand.tmp 45), type := 9, pos := "overview.go:159", after := #[{ on := 19, ground := Ground.data }, { on := 19, ground := Ground.chain }, { on := 0, ground := Ground.phase }, { on := 1, ground := Ground.phase }, { on := 2, ground := Ground.phase }, { on := 3, ground := Ground.phase }, { on := 4, ground := Ground.phase }, { on := 5, ground := Ground.phase }, { on := 6, ground := Ground.phase }, { on := 7, ground := Ground.phase }, { on := 8, ground := Ground.phase }, { on := 9, ground := Ground.phase }, { on := 10, ground := Ground.phase }, { on := 11, ground := Ground.phase }, { on := 12, ground := Ground.phase }, { on := 13, ground := Ground.phase }, { on := 14, ground := Ground.phase }, { on := 15, ground := Ground.phase }, { on := 16, ground := Ground.phase }, { on := 17, ground := Ground.phase }, { on := 18, ground := Ground.phase }, { on := 19, ground := Ground.phase }], guard := none }) (v := (bytesV J)) rfl (by kernel_rfl) (by kernel_rfl) (by kernel_rfl) (fun _ _ _ h => h) (Or.inl ⟨by rfl, fun w' hSw => by clear hSw; go_simp⟩) hH6 ?_
    try simp only [Act.put, List.setIfInBounds_toArray, List.set_cons_zero, List.set_cons_succ]
    refine wpAnyH_take (i := 21) (oi := { dst := some 3, op := Op.assign (Operand.const (Value.int IntKind.i64 0)), type := 47, pos := "overview.go:159", after := #[{ on := 20, ground := Ground.chain }, { on := 0, ground := Ground.phase }, { on := 1, ground := Ground.phase }, { on := 2, ground := Ground.phase }, { on := 3, ground := Ground.phase }, { on := 4, ground := Ground.phase }, { on := 5, ground := Ground.phase }, { on := 6, ground := Ground.phase }, { on := 7, ground := Ground.phase }, { on := 8, ground := Ground.phase }, { on := 9, ground := Ground.phase }, { on := 10, ground := Ground.phase }, { on := 11, ground := Ground.phase }, { on := 12, ground := Ground.phase }, { on := 13, ground := Ground.phase }, { on := 14, ground := Ground.phase }, { on := 15, ground := Ground.phase }, { on := 16, ground := Ground.phase }, { on := 17, ground := Ground.phase }, { on := 18, ground := Ground.phase }, { on := 19, ground := Ground.phase }, { on := 20, ground := Ground.phase }], guard := none }) (v := (.int .i64 0)) rfl (by kernel_rfl) (by kernel_rfl) (by kernel_rfl) (fun _ _ _ h => h) (Or.inl ⟨by rfl, fun w' hSw => by clear hSw; go_simp⟩) hH6 ?_
    try simp only [Act.put, List.setIfInBounds_toArray, List.set_cons_zero, List.set_cons_succ]
    refine wpAnyH_done (by kernel_rfl) ?_ _
    refine NoPanic.normal ?_
    have hb9' := Lib.hid (hbw1.out.trans (hH6.mono hbw1.out.size))
    clear hH0 hH1 hH2 hH3 hH4 hH5 hH6
    go_wp2_with fail
    go_ret2
    rw [← hJ'.out]
    exact ⟨rfl, hb9'.out⟩
end Go.Proofs.YtnniijnfkbkdcaaGreatDoor
