/- Insert into nothing; Add to a group without lines. (Printed by wip/gen_o9.py.) -/
import Derived.Test.YtnniijnfkbkdcaaGreatDoorO8
namespace Go.Proofs.YtnniijnfkbkdcaaGreatDoor
open Go Go.RowKit Go.Proofs
set_option linter.unusedSimpArgs false
set_option linter.unusedVariables false

theorem Tryz.infoLine : (Tryz.prog.info? 44).map (fun i => (i.zero, i.size, i.bytes)) = some (some (.agg zl.toArray), 38, 112) := by kernel_rfl
set_option maxHeartbeats 1600000 in
set_option maxRecDepth 100000 in
theorem insert_none (bk : Nat) (cs : List Value) (w : World) (hl : cs.length = 38) (hr : w.rangeAt bk 0 cs) (h1 : ∀ u ∈ cs, u.oneCell' = true) :
    Calls Tryz.prog 59 #[.slice none 0 0, .int .i64 0, .slice (some ⟨bk, 0, none⟩) 1 1] w fun e w' => ∃ g k, e = .returned (.slice (some ⟨g, 0, none⟩) 1 k) ∧ w'.ownsRow w.heap.size 44 38 (.slice (some ⟨g, 0, none⟩) 1 k) 1 cs ∧ Below w.heap.size w w' := by
  obtain ⟨i0, hi, hz0, hz1, hz2⟩ := info_parts Tryz.infoLine
  have hn : Hid (w.ownsRow w.heap.size 44 38 (.slice none 0 0) 0 []) := World.ownsRow_nil _ _ _ _
  have hnew : Hid (∀ j u, cs[j]? = some u → w.cell? ((⟨bk, 0, none⟩ : Addr).add j) = some u) := fun j u hj => by
    have := hr j u hj
    rw [Nat.zero_add] at this
    rw [Addr.add_mid, Nat.zero_add]; exact this
  have h1' := Lib.hid h1
  have hl' : Hid (cs.length = 1 * 38) := hl
  have hi' := Lib.hid hi
  have hz0' := Lib.hid hz0
  have hz1' := Lib.hid hz1
  have hz2' := Lib.hid hz2
  clear hi hz0 hz1 hz2 hl hr h1
  go_enter Tryz.func59, Tryz.ntmps59
  go_wp2_with (at_builtin; refine wpList_append_own _ rfl _ _ 94 rfl w.heap.size 44 i0 (.agg zl.toArray) 38 112 Tryz.underlying94 hi'.out hz0'.out hz1'.out hz2'.out (by rfl) (by decide) _ 0 [] rfl hn.out ⟨bk, 0, none⟩ 1 1 cs rfl hl'.out hnew.out h1'.out (by unfold maxLen; omega) (by omega) (Nat.le_refl _) ?_; intro v' w1 ho hg hne; have ho' := Lib.hid ho; have hg' := Lib.hid hg; clear ho hg hne)
  go_ret
  have ho := ho'.out
  rw [List.nil_append, Nat.zero_add] at ho
  obtain ⟨g, k, rfl, _⟩ := ho.form (by decide)
  exact ⟨g, k, rfl, ho, (Below.refl _ w).grown hg'.out (Nat.le_refl _) (fun j hj => (hn.out.lt j hj).1)⟩
/-- everything but the map stands as it stood -/
structure KeptM (m : Nat) (a b : World) : Prop where
  os : b.os = a.os
  tape : b.tape = a.tape
  output : b.output = a.output
  size : a.heap.size ≤ b.heap.size
  block : ∀ k, k < a.heap.size → k ≠ m → b.heap[k]? = a.heap[k]?
theorem KeptM.cell {m : Nat} {a b : World} (h : KeptM m a b) {k j : Nat} {v : Value} (hk : k ≠ m) (hv : a.cell? ⟨k, j, none⟩ = some v) : b.cell? ⟨k, j, none⟩ = some v := by
  have hlt := World.block_lt_of_cell? a _ hv
  rw [World.cell?_of_block (h.block k hlt hk)]; exact hv
theorem KeptM.below {m : Nat} {a b c : World} (h : KeptM m a b) (hb : Below b.heap.size b c) : KeptM m a c :=
  ⟨hb.os.trans h.os, hb.tape.trans h.tape, hb.output.trans h.output, Nat.le_trans h.size hb.size, fun k h1 h2 => (hb.block k (by have := h.size; omega)).trans (h.block k h1 h2)⟩
theorem KeptM.grown {m : Nat} {a b c : World} (h : KeptM m a b) (hg : b.grownBy c (some m)) : KeptM m a c :=
  ⟨hg.os.trans h.os, hg.tape.trans h.tape, hg.output.trans h.output, Nat.le_trans h.size hg.size, fun k h1 h2 => (hg.block k (by have := h.size; omega) (fun e => h2 (by cases e; rfl))).trans (h.block k h1 h2)⟩
set_option maxHeartbeats 6400000 in
set_option maxRecDepth 100000 in
theorem add_none (sb m : Nat) (L : GL) (c : Int) (g : ByteArray) (n : Int) (i1 i2 i3 i4 i5 i6 i7 i8 i9 i10 i11 i12 i13 i14 i15 i16 i17 i18 i19 i20 i21 i22 i23 i24 i25 i26 i27 i28 i29 i30 i31 i32 : Value) (nm : ByteArray) (d : Int) (sj : ByteArray) (b : Int) (w : World) (h : IdxAt w sb m L c) (hg : getL g L = .slice none 0 0) (hgn : gErr g = 0) (hgs : g.size ≤ 9223372036854775807)
    (hck : firstErr (errs n nm d sj 0 b) = 0) (hone : ∀ u ∈ i1 :: i2 :: i3 :: i4 :: i5 :: i6 :: i7 :: i8 :: i9 :: i10 :: i11 :: i12 :: i13 :: i14 :: i15 :: i16 :: i17 :: i18 :: i19 :: i20 :: i21 :: i22 :: i23 :: i24 :: i25 :: i26 :: i27 :: i28 :: i29 :: i30 :: i31 :: i32 :: [], u.oneCell' = true) (hc : 0 ≤ c ∧ c < 65536) :
    Calls Tryz.prog 24 #[.pointer (some ⟨sb, 0, none⟩), .string g, .agg (.int .i64 n :: i1 :: i2 :: i3 :: i4 :: i5 :: i6 :: i7 :: i8 :: i9 :: i10 :: i11 :: i12 :: i13 :: i14 :: i15 :: i16 :: i17 :: i18 :: i19 :: i20 :: i21 :: i22 :: i23 :: i24 :: i25 :: i26 :: i27 :: i28 :: i29 :: i30 :: i31 :: i32 :: .string nm :: .int .i64 d :: .string sj :: .slice none 0 0 :: .int .i64 b :: []).toArray] w fun e w' =>
      e = .returned (.int .i64 0) ∧ ∃ gb k, IdxAt w' sb m (putL g (.slice (some ⟨gb, 0, none⟩) 1 k) L) (c + 1) ∧ w'.os = w.os ∧ w'.tape = w.tape ∧ w'.output = w.output ∧ w.heap.size ≤ w'.heap.size ∧ ∀ k, k < w.heap.size → k ≠ sb → k ≠ m → w'.heap[k]? = w.heap[k]? := by
  obtain ⟨hn1, hnm, hd1, hsj, _, hb1⟩ := errs_ok hck
  obtain ⟨W, hW⟩ : ∃ W, W = w.alloc (.cells (.int .i64 n :: i1 :: i2 :: i3 :: i4 :: i5 :: i6 :: i7 :: i8 :: i9 :: i10 :: i11 :: i12 :: i13 :: i14 :: i15 :: i16 :: i17 :: i18 :: i19 :: i20 :: i21 :: i22 :: i23 :: i24 :: i25 :: i26 :: i27 :: i28 :: i29 :: i30 :: i31 :: i32 :: .string nm :: .int .i64 d :: .string sj :: .slice none 0 0 :: .int .i64 b :: []).toArray 44) := ⟨_, rfl⟩
  have hb0 : Below w.heap.size w W := by rw [hW]; exact (Below.refl _ w).alloc (Nat.le_refl _) _
  have hln : W.heap[w.heap.size]? = some (.cells (.int .i64 n :: i1 :: i2 :: i3 :: i4 :: i5 :: i6 :: i7 :: i8 :: i9 :: i10 :: i11 :: i12 :: i13 :: i14 :: i15 :: i16 :: i17 :: i18 :: i19 :: i20 :: i21 :: i22 :: i23 :: i24 :: i25 :: i26 :: i27 :: i28 :: i29 :: i30 :: i31 :: i32 :: .string nm :: .int .i64 d :: .string sj :: .slice none 0 0 :: .int .i64 b :: []).toArray 44 (0, 0)) := by rw [hW]; exact heap_alloc_new _ _
  have hs0 : W.heap.size = w.heap.size + 1 := by rw [hW]; simp
  have hx0 := h.below hb0
  have hall : ∀ u ∈ (.int .i64 n :: i1 :: i2 :: i3 :: i4 :: i5 :: i6 :: i7 :: i8 :: i9 :: i10 :: i11 :: i12 :: i13 :: i14 :: i15 :: i16 :: i17 :: i18 :: i19 :: i20 :: i21 :: i22 :: i23 :: i24 :: i25 :: i26 :: i27 :: i28 :: i29 :: i30 :: i31 :: i32 :: .string nm :: .int .i64 d :: .string sj :: .slice none 0 0 :: .int .i64 b :: [] : List Value), u.oneCell' = true := line_one n i1 i2 i3 i4 i5 i6 i7 i8 i9 i10 i11 i12 i13 i14 i15 i16 i17 i18 i19 i20 i21 i22 i23 i24 i25 i26 i27 i28 i29 i30 i31 i32 nm d sj (.slice none 0 0) b hone rfl
  have hckc := fun W' => check_line n i1 i2 i3 i4 i5 i6 i7 i8 i9 i10 i11 i12 i13 i14 i15 i16 i17 i18 i19 i20 i21 i22 i23 i24 i25 i26 i27 i28 i29 i30 i31 i32 nm d sj (.slice none 0 0) b 0 W' (by omega) (by omega) (fun W' _ => (refs_none none 0 W').mono fun e w' ⟨h1, h2⟩ => ⟨h1, by rw [← h2]; exact Below.refl _ _⟩)
  rw [hck] at hckc
  have hlt := h.lt
  have hckc' := Lib.hid hckc
  have hb0' := Lib.hid hb0
  have hln0' := Lib.hid hln
  have hx0' := Lib.hid hx0
  have hall' := Lib.hid hall
  have hone' := Lib.hid hone
  have hg' := Lib.hid hg
  have hW' := Lib.hid hW
  have hs0' := Lib.hid hs0
  clear hckc hb0 hln hx0 hall hone hg hW hs0 hck h
  go_enter Tryz.func24, Tryz.ntmps24
  go_wp2_with (go_at_call 58; fail)
  rw [← hW'.out]
  refine (check_any g _ hgs).mono ?_
  rintro e w1 ⟨rfl, hb⟩
  rw [hgn]
  have hln1 : w1.heap[w.heap.size]? = some (.cells (.int .i64 n :: i1 :: i2 :: i3 :: i4 :: i5 :: i6 :: i7 :: i8 :: i9 :: i10 :: i11 :: i12 :: i13 :: i14 :: i15 :: i16 :: i17 :: i18 :: i19 :: i20 :: i21 :: i22 :: i23 :: i24 :: i25 :: i26 :: i27 :: i28 :: i29 :: i30 :: i31 :: i32 :: .string nm :: .int .i64 d :: .string sj :: .slice none 0 0 :: .int .i64 b :: []).toArray 44 (0, 0)) := (hb.block _ (by have := hs0'.out; omega)).trans hln0'.out
  have hx1 := Lib.hid (hx0'.out.below hb)
  have hB1 := Lib.hid (hb0'.out.trans (hb.mono hb0'.out.size))
  have hln1' := Lib.hid hln1
  clear hb hln1
  go_wp2_with (refine wpList_load_row rfl 44 _ rfl w.heap.size rfl _ _ _ _ hln1'.out Tryz.underlying44 rfl rfl ?_)
  go_at_call 45
  refine (hckc'.out _).mono ?_
  rintro e w2 ⟨rfl, hb⟩
  have hln2 : w2.heap[w.heap.size]? = some (.cells (.int .i64 n :: i1 :: i2 :: i3 :: i4 :: i5 :: i6 :: i7 :: i8 :: i9 :: i10 :: i11 :: i12 :: i13 :: i14 :: i15 :: i16 :: i17 :: i18 :: i19 :: i20 :: i21 :: i22 :: i23 :: i24 :: i25 :: i26 :: i27 :: i28 :: i29 :: i30 :: i31 :: i32 :: .string nm :: .int .i64 d :: .string sj :: .slice none 0 0 :: .int .i64 b :: []).toArray 44 (0, 0)) := (hb.block _ (Array.getElem?_eq_some_iff.1 hln1'.out).1).trans hln1'.out
  have hx2 := Lib.hid (hx1.out.below hb)
  have hB2 := Lib.hid (hB1.out.trans (hb.mono hB1.out.size))
  have hln2' := Lib.hid hln2
  have e0 := cells_at hln2 0 _ rfl
  clear hb hln2
  go_wp2_with (go_at_call 56; fail)
  refine (search_none sb m L c g n _ hx2.out hg'.out).mono ?_
  rintro e w3 ⟨rfl, rfl⟩
  clear e0
  have hidr : w2.rangeAt w.heap.size 1 (i1 :: i2 :: i3 :: i4 :: i5 :: i6 :: i7 :: i8 :: i9 :: i10 :: i11 :: i12 :: i13 :: i14 :: i15 :: i16 :: i17 :: i18 :: i19 :: i20 :: i21 :: i22 :: i23 :: i24 :: i25 :: i26 :: i27 :: i28 :: i29 :: i30 :: i31 :: i32 :: []) := fun j v hj => by
    refine cells_at hln2'.out (1 + j) v ?_
    have hj32 : j < 32 := (List.getElem?_eq_some_iff.1 hj).1
    rw [Nat.add_comm, List.getElem?_cons_succ]
    exact (List.getElem?_append_left (l₂ := .string nm :: .int .i64 d :: .string sj :: .slice none 0 0 :: .int .i64 b :: []) hj32).trans hj
  have hidr' := Lib.hid hidr
  clear hidr
  go_wp2_with (refine wpList_load_mid rfl 31 _ rfl w.heap.size 1 rfl _ _ hidr'.out Tryz.underlying31 rfl rfl ?_)
  go_at_call 35
  refine (find_none sb m L c g i1 i2 i3 i4 i5 i6 i7 i8 i9 i10 i11 i12 i13 i14 i15 i16 i17 i18 i19 i20 i21 i22 i23 i24 i25 i26 i27 i28 i29 i30 i31 i32 _ hx2.out hg'.out).mono ?_
  rintro e w4 ⟨rfl, hb⟩
  have hln4 : w4.heap[w.heap.size]? = some (.cells (.int .i64 n :: i1 :: i2 :: i3 :: i4 :: i5 :: i6 :: i7 :: i8 :: i9 :: i10 :: i11 :: i12 :: i13 :: i14 :: i15 :: i16 :: i17 :: i18 :: i19 :: i20 :: i21 :: i22 :: i23 :: i24 :: i25 :: i26 :: i27 :: i28 :: i29 :: i30 :: i31 :: i32 :: .string nm :: .int .i64 d :: .string sj :: .slice none 0 0 :: .int .i64 b :: []).toArray 44 (0, 0)) := (hb.block _ (Array.getElem?_eq_some_iff.1 hln2'.out).1).trans hln2'.out
  have hx4 := Lib.hid (hx2.out.below hb)
  have hB4 := Lib.hid (hB2.out.trans (hb.mono hB2.out.size))
  have hln4' := Lib.hid hln4
  clear hb hln4
  obtain ⟨V, hV⟩ : ∃ V, V = (w4.alloc (.cells zl.toArray 44)).setRow w4.heap.size zl.toArray := ⟨_, rfl⟩
  have hbV : Below w4.heap.size w4 V := by rw [hV]; exact below_setRow ((Below.refl _ _).alloc (Nat.le_refl _) _) (Nat.le_refl _)
  have hxV := hx4.out.below hbV
  have hlnV : V.heap[w.heap.size]? = some (.cells (.int .i64 n :: i1 :: i2 :: i3 :: i4 :: i5 :: i6 :: i7 :: i8 :: i9 :: i10 :: i11 :: i12 :: i13 :: i14 :: i15 :: i16 :: i17 :: i18 :: i19 :: i20 :: i21 :: i22 :: i23 :: i24 :: i25 :: i26 :: i27 :: i28 :: i29 :: i30 :: i31 :: i32 :: .string nm :: .int .i64 d :: .string sj :: .slice none 0 0 :: .int .i64 b :: []).toArray 44 (0, 0)) := (hbV.block _ (Array.getElem?_eq_some_iff.1 hln4'.out).1).trans hln4'.out
  have hln' : Hid (∀ j v, (.int .i64 n :: i1 :: i2 :: i3 :: i4 :: i5 :: i6 :: i7 :: i8 :: i9 :: i10 :: i11 :: i12 :: i13 :: i14 :: i15 :: i16 :: i17 :: i18 :: i19 :: i20 :: i21 :: i22 :: i23 :: i24 :: i25 :: i26 :: i27 :: i28 :: i29 :: i30 :: i31 :: i32 :: .string nm :: .int .i64 d :: .string sj :: .slice none 0 0 :: .int .i64 b :: [] : List Value)[j]? = some v → V.cell? ⟨w.heap.size, j, none⟩ = some v) := fun j v hj => cells_at hlnV j v hj
  have hBV := Lib.hid (hB4.out.trans (hbV.mono hB4.out.size))
  have hM' := Lib.hid hxV.2
  have hc0' := Lib.hid hxV.cell0
  have hxV' := Lib.hid hxV
  have hne' := Lib.hid hlt.2.2
  have hnl' : Hid (w.heap.size ≠ m) := by have := hlt.2.1; show _ ≠ _; omega
  have hc1 := hxV.cell1
  have hlt' := Lib.hid hlt
  rw [hV] at hc1
  have hV' := Lib.hid hV
  have hdc : decide (c ≥ 65536) = false := decide_eq_false (by omega)
  clear hbV hxV hlnV hV hlt
  have hzz := Tryz.zero_zl
  go_wp2_with (first | (refine wpList_store_row rfl 44 _ _ rfl w4.heap.size zl.toArray rfl rfl 44 zl.toArray (heap_alloc_new _ _) (by kernel_rfl) rfl zl_one ?_))
  clear hc1
  rw [← hV'.out]
  refine wp_region_noPanic ?_
  have hH0 : KeptM m V V.drew := ⟨rfl, rfl, rfl, Nat.le_refl _, fun _ _ _ => rfl⟩
  have hM0 : MapIs V.drew m L := hM'.out
  refine wp_region_held_drew (S := (fun W' => KeptM m V W')) (by kernel_rfl) hH0 (fun _ => ?_)
  refine wpAnyH_take (i := 0) (oi := { dst := some 50, op := Op.move (Operand.tmp 0), type := 25, pos := "overview.go:232", after := #[], guard := none }) (v := (.pointer (some ⟨sb, 0, none⟩))) rfl (by kernel_rfl) (by kernel_rfl) (by kernel_rfl) (fun _ _ _ h => h) (Or.inl ⟨by rfl, fun W' hSw => by clear hSw; go_simp⟩) hH0 ?_
  try simp only [Act.put, List.setIfInBounds_toArray, List.set_cons_zero, List.set_cons_succ]
  refine wpAnyH_take (i := 1) (oi := { dst := some 51, op := Op.nilCheck (Operand.tmp 50), type := 0, pos := "overview.go:232", after := #[{ on := 0, ground := Ground.data }], guard := none }) (v := (.pointer (some ⟨sb, 0, none⟩))) rfl (by kernel_rfl) (by kernel_rfl) (by kernel_rfl) (fun _ _ _ h => h) (Or.inl ⟨by rfl, fun W' hSw => by clear hSw; go_simp⟩) hH0 ?_
  try simp only [Act.put, List.setIfInBounds_toArray, List.set_cons_zero, List.set_cons_succ]
  refine wpAnyH_take (i := 2) (oi := { dst := some 52, op := Op.fieldAddr 91 (Operand.tmp 51) 0, type := 0, pos := "overview.go:232", after := #[{ on := 1, ground := Ground.data }], guard := none }) (v := (.pointer (some ⟨sb, 0, none⟩))) rfl (by kernel_rfl) (by kernel_rfl) (by kernel_rfl) (fun _ _ _ h => h) (Or.inl ⟨by rfl, fun W' hSw => by clear hSw; go_simp⟩) hH0 ?_
  try simp only [Act.put, List.setIfInBounds_toArray, List.set_cons_zero, List.set_cons_succ]
  refine wpAnyH_take (i := 3) (oi := { dst := some 53, op := Op.load 89 (Operand.tmp 52), type := 89, pos := "overview.go:232", after := #[{ on := 2, ground := Ground.data }], guard := none }) (v := (.map (some m))) rfl (by kernel_rfl) (by kernel_rfl) (by kernel_rfl) (fun _ _ _ h => h) (Or.inl ⟨by rfl, fun W' hSw => by have c := KeptM.cell hSw hne'.out hc0'.out; clear hSw; go_simp⟩) hH0 ?_
  try simp only [Act.put, List.setIfInBounds_toArray, List.set_cons_zero, List.set_cons_succ]
  refine wpAnyH_take (i := 4) (oi := { dst := some 54, op := Op.move (Operand.tmp 1), type := 9, pos := "overview.go:232", after := #[], guard := none }) (v := (.string g)) rfl (by kernel_rfl) (by kernel_rfl) (by kernel_rfl) (fun _ _ _ h => h) (Or.inl ⟨by rfl, fun W' hSw => by clear hSw; go_simp⟩) hH0 ?_
  try simp only [Act.put, List.setIfInBounds_toArray, List.set_cons_zero, List.set_cons_succ]
  refine wpAnyH_take (i := 5) (oi := { dst := some 55, op := Op.move (Operand.tmp 0), type := 25, pos := "overview.go:232", after := #[], guard := none }) (v := (.pointer (some ⟨sb, 0, none⟩))) rfl (by kernel_rfl) (by kernel_rfl) (by kernel_rfl) (fun _ _ _ h => h) (Or.inl ⟨by rfl, fun W' hSw => by clear hSw; go_simp⟩) hH0 ?_
  try simp only [Act.put, List.setIfInBounds_toArray, List.set_cons_zero, List.set_cons_succ]
  refine wpAnyH_take (i := 6) (oi := { dst := some 56, op := Op.nilCheck (Operand.tmp 55), type := 0, pos := "overview.go:232", after := #[{ on := 5, ground := Ground.data }], guard := none }) (v := (.pointer (some ⟨sb, 0, none⟩))) rfl (by kernel_rfl) (by kernel_rfl) (by kernel_rfl) (fun _ _ _ h => h) (Or.inl ⟨by rfl, fun W' hSw => by clear hSw; go_simp⟩) hH0 ?_
  try simp only [Act.put, List.setIfInBounds_toArray, List.set_cons_zero, List.set_cons_succ]
  refine wpAnyH_take (i := 7) (oi := { dst := some 57, op := Op.fieldAddr 91 (Operand.tmp 56) 0, type := 0, pos := "overview.go:232", after := #[{ on := 6, ground := Ground.data }], guard := none }) (v := (.pointer (some ⟨sb, 0, none⟩))) rfl (by kernel_rfl) (by kernel_rfl) (by kernel_rfl) (fun _ _ _ h => h) (Or.inl ⟨by rfl, fun W' hSw => by clear hSw; go_simp⟩) hH0 ?_
  try simp only [Act.put, List.setIfInBounds_toArray, List.set_cons_zero, List.set_cons_succ]
  refine wpAnyH_take (i := 8) (oi := { dst := some 58, op := Op.load 89 (Operand.tmp 57), type := 89, pos := "overview.go:232", after := #[{ on := 7, ground := Ground.data }], guard := none }) (v := (.map (some m))) rfl (by kernel_rfl) (by kernel_rfl) (by kernel_rfl) (fun _ _ _ h => h) (Or.inl ⟨by rfl, fun W' hSw => by have c := KeptM.cell hSw hne'.out hc0'.out; clear hSw; go_simp⟩) hH0 ?_
  try simp only [Act.put, List.setIfInBounds_toArray, List.set_cons_zero, List.set_cons_succ]
  refine wpAnyH_take (i := 9) (oi := { dst := some 59, op := Op.move (Operand.tmp 1), type := 9, pos := "overview.go:232", after := #[], guard := none }) (v := (.string g)) rfl (by kernel_rfl) (by kernel_rfl) (by kernel_rfl) (fun _ _ _ h => h) (Or.inl ⟨by rfl, fun W' hSw => by clear hSw; go_simp⟩) hH0 ?_
  try simp only [Act.put, List.setIfInBounds_toArray, List.set_cons_zero, List.set_cons_succ]
  refine wpAnyH_take (i := 12) (oi := { dst := some 62, op := Op.move (Operand.tmp 9), type := 3, pos := "overview.go:232", after := #[], guard := none }) (v := (.int .i64 0)) rfl (by kernel_rfl) (by kernel_rfl) (by kernel_rfl) (fun _ _ _ h => h) (Or.inl ⟨by rfl, fun W' hSw => by clear hSw; go_simp⟩) hH0 ?_
  try simp only [Act.put, List.setIfInBounds_toArray, List.set_cons_zero, List.set_cons_succ]
  refine wpAnyH_take (i := 13) (oi := { dst := some 63, op := Op.load 44 (Operand.tmp 5), type := 44, pos := "overview.go:232", after := #[], guard := none }) (v := (.agg (.int .i64 n :: i1 :: i2 :: i3 :: i4 :: i5 :: i6 :: i7 :: i8 :: i9 :: i10 :: i11 :: i12 :: i13 :: i14 :: i15 :: i16 :: i17 :: i18 :: i19 :: i20 :: i21 :: i22 :: i23 :: i24 :: i25 :: i26 :: i27 :: i28 :: i29 :: i30 :: i31 :: i32 :: .string nm :: .int .i64 d :: .string sj :: .slice none 0 0 :: .int .i64 b :: []).toArray)) rfl (by kernel_rfl) (by kernel_rfl) (by kernel_rfl) (fun _ _ _ h => h) (yieldsIf_load_mid (by rfl) _ _ rfl w.heap.size 0 rfl (.int .i64 n :: i1 :: i2 :: i3 :: i4 :: i5 :: i6 :: i7 :: i8 :: i9 :: i10 :: i11 :: i12 :: i13 :: i14 :: i15 :: i16 :: i17 :: i18 :: i19 :: i20 :: i21 :: i22 :: i23 :: i24 :: i25 :: i26 :: i27 :: i28 :: i29 :: i30 :: i31 :: i32 :: .string nm :: .int .i64 d :: .string sj :: .slice none 0 0 :: .int .i64 b :: []) _ (fun W' hW j v hj => by rw [Nat.zero_add]; exact KeptM.cell hW hnl'.out (hln'.out j v hj)) Tryz.underlying44 rfl (by kernel_rfl)) hH0 ?_
  try simp only [Act.put, List.setIfInBounds_toArray, List.set_cons_zero, List.set_cons_succ]
  refine wpAnyH_ready (rs := [10]) (by kernel_rfl) (by simp) ?_
  refine AllReadyH.cons (o := { dst := some 60, op := Op.lookup 89 (Operand.tmp 58) (Operand.tmp 59) false, type := 94, pos := "overview.go:232", after := #[{ on := 8, ground := Ground.data }, { on := 9, ground := Ground.data }], guard := none }) rfl (fun K hK => ?_) AllReadyH.nil
  have hlk := hM0.lookup g
  rw [hg'.out] at hlk
  go_simp
  refine hK.out _ _ hH0 (fun _ => ?_)
  clear hK hlk
  try simp only [Act.put, List.setIfInBounds_toArray, List.set_cons_zero, List.set_cons_succ]
  refine wpAnyH_ready (rs := [11]) (by kernel_rfl) (by simp) ?_
  refine AllReadyH.cons (o := { dst := some 61, op := Op.call { callee := Callee.value (Operand.func 60), args := #[Operand.tmp 60], argTypes := #[94] }, type := 94, pos := "overview.go:232", after := #[{ on := 10, ground := Ground.data }], guard := none }) rfl (fun K hK => ?_) AllReadyH.nil
  go_simp
  go_at_call 60
  refine (clone_lines_none _).mono ?_
  rintro e W9 ⟨rfl, rfl⟩
  refine hK.out _ _ hH0 (fun _ => ?_)
  clear hK
  try simp only [Act.put, List.setIfInBounds_toArray, List.set_cons_zero, List.set_cons_succ]
  refine wpAnyH_ready (rs := [14]) (by kernel_rfl) (by simp) ?_
  refine AllReadyH.cons (o := { dst := some 64, op := Op.call { callee := Callee.value (Operand.func 55), args := #[Operand.tmp 63], argTypes := #[44] }, type := 44, pos := "overview.go:232", after := #[{ on := 13, ground := Ground.data }, { on := 11, ground := Ground.chain }], guard := none }) rfl (fun K hK => ?_) AllReadyH.nil
  go_simp
  go_at_call 55
  refine (clone_line_none n i1 i2 i3 i4 i5 i6 i7 i8 i9 i10 i11 i12 i13 i14 i15 i16 i17 i18 i19 i20 i21 i22 i23 i24 i25 i26 i27 i28 i29 i30 i31 i32 nm d sj b _ _ rfl hone'.out).mono ?_
  rintro e V1 ⟨rfl, hb⟩
  have hH1 := hH0.below hb
  have hM1 := hM0.below hb hM0.lt
  refine hK.out _ _ hH1 (fun _ => ?_)
  clear hK hb
  try simp only [Act.put, List.setIfInBounds_toArray, List.set_cons_zero, List.set_cons_succ]
  refine wpAnyH_ready (rs := [15]) (by kernel_rfl) (by simp) ?_
  refine AllReadyH.cons (o := { dst := some 65, op := Op.buildSlice 94 1 #[(0, Operand.tmp 64)], type := 94, pos := "overview.go:232", after := #[{ on := 14, ground := Ground.data }], guard := none }) rfl (fun K hK => ?_) AllReadyH.nil
  go_simp
  obtain ⟨V2, hV2⟩ : ∃ V2, V2 = V1.alloc (.cells (.int .i64 n :: i1 :: i2 :: i3 :: i4 :: i5 :: i6 :: i7 :: i8 :: i9 :: i10 :: i11 :: i12 :: i13 :: i14 :: i15 :: i16 :: i17 :: i18 :: i19 :: i20 :: i21 :: i22 :: i23 :: i24 :: i25 :: i26 :: i27 :: i28 :: i29 :: i30 :: i31 :: i32 :: .string nm :: .int .i64 d :: .string sj :: .slice none 0 0 :: .int .i64 b :: []).toArray 44) := ⟨_, rfl⟩
  have hb2 : Below V1.heap.size V1 V2 := by rw [hV2]; exact (Below.refl _ _).alloc (Nat.le_refl _) _
  have hr2 : V2.rangeAt V1.heap.size 0 (.int .i64 n :: i1 :: i2 :: i3 :: i4 :: i5 :: i6 :: i7 :: i8 :: i9 :: i10 :: i11 :: i12 :: i13 :: i14 :: i15 :: i16 :: i17 :: i18 :: i19 :: i20 :: i21 :: i22 :: i23 :: i24 :: i25 :: i26 :: i27 :: i28 :: i29 :: i30 :: i31 :: i32 :: .string nm :: .int .i64 d :: .string sj :: .slice none 0 0 :: .int .i64 b :: []) := by rw [hV2]; exact fun j v hj => by rw [Nat.zero_add]; exact cells_at (heap_alloc_new V1 _) j v hj
  have hH2 := hH1.below hb2
  have hM2 := hM1.below hb2 hM1.lt
  rw [← hV2]
  refine hK.out _ _ hH2 (fun _ => ?_)
  clear hK hV2 hb2
  try simp only [Act.put, List.setIfInBounds_toArray, List.set_cons_zero, List.set_cons_succ]
  refine wpAnyH_ready (rs := [16]) (by kernel_rfl) (by simp) ?_
  refine AllReadyH.cons (o := { dst := some 66, op := Op.call { callee := Callee.value (Operand.func 59), args := #[Operand.tmp 61, Operand.tmp 62, Operand.tmp 65], argTypes := #[94, 3, 94] }, type := 94, pos := "overview.go:232", after := #[{ on := 11, ground := Ground.data }, { on := 12, ground := Ground.data }, { on := 15, ground := Ground.data }, { on := 14, ground := Ground.chain }], guard := none }) rfl (fun K hK => ?_) AllReadyH.nil
  go_simp
  go_at_call 59
  refine (insert_none V1.heap.size (.int .i64 n :: i1 :: i2 :: i3 :: i4 :: i5 :: i6 :: i7 :: i8 :: i9 :: i10 :: i11 :: i12 :: i13 :: i14 :: i15 :: i16 :: i17 :: i18 :: i19 :: i20 :: i21 :: i22 :: i23 :: i24 :: i25 :: i26 :: i27 :: i28 :: i29 :: i30 :: i31 :: i32 :: .string nm :: .int .i64 d :: .string sj :: .slice none 0 0 :: .int .i64 b :: []) V2 rfl hr2 hall'.out).mono ?_
  rintro e V3 ⟨gb, k, rfl, hown, hb⟩
  have hH3 := hH2.below hb
  have hM3 := hM2.below hb hM2.lt
  refine hK.out _ _ hH3 (fun _ => ?_)
  clear hK hb
  try simp only [Act.put, List.setIfInBounds_toArray, List.set_cons_zero, List.set_cons_succ]
  refine wpAnyH_ready (rs := [17]) (by kernel_rfl) (by simp) ?_
  refine AllReadyH.cons (o := { dst := none, op := Op.mapUpdate 89 (Operand.tmp 53) (Operand.tmp 54) (Operand.tmp 66), type := 0, pos := "overview.go:232", after := #[{ on := 3, ground := Ground.data }, { on := 4, ground := Ground.data }, { on := 16, ground := Ground.data }, { on := 16, ground := Ground.chain }, { on := 0, ground := Ground.phase }, { on := 1, ground := Ground.phase }, { on := 2, ground := Ground.phase }, { on := 3, ground := Ground.phase }, { on := 4, ground := Ground.phase }, { on := 5, ground := Ground.phase }, { on := 6, ground := Ground.phase }, { on := 7, ground := Ground.phase }, { on := 8, ground := Ground.phase }, { on := 9, ground := Ground.phase }, { on := 10, ground := Ground.phase }, { on := 11, ground := Ground.phase }, { on := 12, ground := Ground.phase }, { on := 13, ground := Ground.phase }, { on := 14, ground := Ground.phase }, { on := 15, ground := Ground.phase }, { on := 16, ground := Ground.phase }], guard := none }) rfl (fun K hK => ?_) AllReadyH.nil
  obtain ⟨V4, hu, hM4, hg4⟩ := hM3.update g (.slice (some ⟨gb, 0, none⟩) 1 k)
  go_simp
  have hH4 := hH3.grown hg4
  refine hK.out _ _ hH4 (fun _ => ?_)
  clear hK hu
  try simp only [Act.put, List.setIfInBounds_toArray, List.set_cons_zero, List.set_cons_succ]
  refine wpAnyH_done (by kernel_rfl) ?_ _
  refine NoPanic.normal ?_
  have hH4' := Lib.hid hH4
  have hM4' := Lib.hid hM4
  have hrow4 := Lib.hid (hown.kept hg4 (Or.inr (fun e => by have h1 := (hown.lt m e).1; have h2 := hH2.size; have h3 := hM'.out.lt; omega)))
  clear hH0 hM0 hH1 hM1 hH2 hM2 hr2 hH3 hM3 hown hg4 hH4 hM4
  have hsb4 : V4.heap[sb]? = some (.cells #[.map (some m), .int .i64 c] 91 (0, 0)) := (hH4'.out.block sb hxV'.out.lt.1 hne'.out).trans hxV'.out.1
  have q1 := cells_at (cs := [.map (some m), .int .i64 c]) hsb4 1 _ rfl
  have q2 : V4.frozen? ⟨sb, 1, none⟩ = false := frozen_of_row V4 sb 1 _ _ hsb4
  have hwr : IntKind.i64.wrap (c + 1) = c + 1 := by rw [IntKind.wrap_i64]; omega
  have hsb4' := Lib.hid hsb4
  clear hsb4
  go_wp2_with fail
  go_ret
  refine ⟨rfl, gb, k, ⟨heap_setCell_same V4 sb 1 _ _ _ hsb4'.out, hM4'.out.block (heap_setCell_other V4 _ _ _ (fun e => hne'.out e.symm))⟩, hH4'.out.os.trans hBV.out.os, hH4'.out.tape.trans hBV.out.tape, hH4'.out.output.trans hBV.out.output, ?_, fun j h1 h2 h3 => ?_⟩
  · have a1 := hBV.out.size
    have a2 := hH4'.out.size
    show w.heap.size ≤ (V4.setCell _ _).heap.size
    simp only [World.setCell, Array.size_modify]; omega
  · have a1 := hBV.out.size
    exact (heap_setCell_other V4 _ _ _ h2).trans ((hH4'.out.block j (by omega) h3).trans (hBV.out.block j h1))
end Go.Proofs.YtnniijnfkbkdcaaGreatDoor
