/- OverviewNil: the walk. (Printed by wip/gen_oj.py.) -/
import Derived.Test.YtnniijnfkbkdcaaGreatDoorOI
namespace Go.Proofs.YtnniijnfkbkdcaaGreatDoor
open Go Go.RowKit Go.Proofs
set_option linter.unusedSimpArgs false
set_option linter.unusedVariables false

/-- what OverviewNil keeps: its argument's box, the cell of its result -/
structure NilAt (w W : World) (cs : List Value) : Prop where
  bel : Below w.heap.size w W
  ln : W.heap[w.heap.size]? = some (.cells cs.toArray 34 (0, 0))
  rs : W.heap[w.heap.size + 1]? = some (.cells #[.bool false] 4 (0, 0))
theorem NilAt.below {w W W' : World} {cs : List Value} (h : NilAt w W cs) (hb : Below W.heap.size W W') : NilAt w W' cs :=
  ⟨h.bel.trans (hb.mono h.bel.size), (hb.block _ (Array.getElem?_eq_some_iff.1 h.ln).1).trans h.ln, (hb.block _ (Array.getElem?_eq_some_iff.1 h.rs).1).trans h.rs⟩
theorem NilAt.at {w W : World} {cs : List Value} (h : NilAt w W cs) (j : Nat) (v : Value) (hj : cs[j]? = some v) : W.cell? ⟨w.heap.size, j, none⟩ = some v := cells_at h.ln j v hj
theorem NilAt.all {w W : World} {cs : List Value} (h : NilAt w W cs) : W.rangeAt w.heap.size 0 cs := fun j v hj => by rw [Nat.zero_add]; exact h.at j v hj
theorem NilAt.ids {w W : World} {cs r ids : List Value} {x y : Value} (h : NilAt w W cs) (he : cs = x :: y :: (ids ++ r)) : W.rangeAt w.heap.size 2 ids := fun j v hj => by
  refine h.at (2 + j) v ?_
  rw [he, Nat.add_comm, List.getElem?_cons_succ, List.getElem?_cons_succ, List.getElem?_append_left (List.getElem?_eq_some_iff.1 hj).1]
  exact hj
theorem range_zl {W : World} {p : Nat} (h : W.heap[p]? = some (.cells zl.toArray 44 (0, 0))) : W.rangeAt p 0 zl := fun j v hj => by rw [Nat.zero_add]; exact cells_at h j v hj
def zlW (W : World) : World := (W.alloc (.cells zl.toArray 44)).setRow W.heap.size zl.toArray
theorem zlW_below (W : World) : Below W.heap.size W (zlW W) := below_setRow ((Below.refl _ W).alloc (Nat.le_refl _) _) (Nat.le_refl _)
theorem zlW_block (W : World) : (zlW W).heap[W.heap.size]? = some (.cells zl.toArray 44 (0, 0)) := setRow_heap _ _ _ _ _ _ (heap_alloc_new _ _)
theorem KeptM.setCellM {m j : Nat} {a b : World} {v : Value} (h : KeptM m a b) : KeptM m a (b.setCell ⟨m, j, none⟩ v) :=
  ⟨h.os, h.tape, h.output, by have := h.size; simp only [World.setCell, Array.size_modify]; exact this, fun k h1 h2 => (heap_setCell_other b _ _ _ h2).trans (h.block k h1 h2)⟩
theorem res_bool {fn : Func} {p : Tmp} (h : fn.results = #[.cell p 4]) (tmps : Array Value) (w : World) (g : Nat) (x : Bool)
    (hp : tmps.getD p undef = .pointer (some ⟨g, 0, none⟩)) (hc : w.cell? ⟨g, 0, none⟩ = some (.bool x)) : (results fn tmps).run Tryz.prog w = .ok (.bool x) w := by
  have hp' : tmps[p]?.getD undef = .pointer (some ⟨g, 0, none⟩) := by simpa using hp
  have hu := Tryz.underlying4
  have ha := Tryz.isAgg4
  simp [results, h, hp', asAddr, loadVar, load, hc, ha, go_sem]
  simp [Sem.run, hc]
set_option maxHeartbeats 3200000 in
set_option maxRecDepth 100000 in
theorem overviewnil_lit (g : ByteArray) (n : Int) (i1 i2 i3 i4 i5 i6 i7 i8 i9 i10 i11 i12 i13 i14 i15 i16 i17 i18 i19 i20 i21 i22 i23 i24 i25 i26 i27 i28 i29 i30 i31 i32 : Value) (nm : ByteArray) (d : Int) (sj : ByteArray) (A : Option Addr) (r c : Nat) (ys : List Value) (b : Int) (w : World) (rv : Value) (hrv : rv = .slice A r c) (hi32 : ∀ u ∈ i1 :: i2 :: i3 :: i4 :: i5 :: i6 :: i7 :: i8 :: i9 :: i10 :: i11 :: i12 :: i13 :: i14 :: i15 :: i16 :: i17 :: i18 :: i19 :: i20 :: i21 :: i22 :: i23 :: i24 :: i25 :: i26 :: i27 :: i28 :: i29 :: i30 :: i31 :: i32 :: [], u.oneCell' = true) (hs : SrcV w 32 rv r ys) (hone : ∀ u ∈ ys, u.oneCell' = true) (hT : Tab w) :
    Calls Tryz.prog 8 #[.agg ((.string g :: .int .i64 n :: i1 :: i2 :: i3 :: i4 :: i5 :: i6 :: i7 :: i8 :: i9 :: i10 :: i11 :: i12 :: i13 :: i14 :: i15 :: i16 :: i17 :: i18 :: i19 :: i20 :: i21 :: i22 :: i23 :: i24 :: i25 :: i26 :: i27 :: i28 :: i29 :: i30 :: i31 :: i32 :: .string nm :: .int .i64 d :: .string sj :: rv :: .int .i64 b :: [])).toArray] w fun e w' => e = .returned (.bool true) ∧ Below w.heap.size w w' := by
  obtain ⟨W, hW⟩ : ∃ W, W = (w.alloc (.cells ((.string g :: .int .i64 n :: i1 :: i2 :: i3 :: i4 :: i5 :: i6 :: i7 :: i8 :: i9 :: i10 :: i11 :: i12 :: i13 :: i14 :: i15 :: i16 :: i17 :: i18 :: i19 :: i20 :: i21 :: i22 :: i23 :: i24 :: i25 :: i26 :: i27 :: i28 :: i29 :: i30 :: i31 :: i32 :: .string nm :: .int .i64 d :: .string sj :: rv :: .int .i64 b :: [])).toArray 34)).alloc (.cells #[.bool false] 4) := ⟨_, rfl⟩
  have hN0 : NilAt w W ((.string g :: .int .i64 n :: i1 :: i2 :: i3 :: i4 :: i5 :: i6 :: i7 :: i8 :: i9 :: i10 :: i11 :: i12 :: i13 :: i14 :: i15 :: i16 :: i17 :: i18 :: i19 :: i20 :: i21 :: i22 :: i23 :: i24 :: i25 :: i26 :: i27 :: i28 :: i29 :: i30 :: i31 :: i32 :: .string nm :: .int .i64 d :: .string sj :: rv :: .int .i64 b :: [])) := ⟨by rw [hW]; exact ((Below.refl _ w).alloc (Nat.le_refl _) _).alloc (by simp) _, by rw [hW]; exact heap_alloc2_old _ _ _, by rw [hW]; exact heap_alloc2_new _ _ _⟩
  have hsm := fun W => small_any g n i1 i2 i3 i4 i5 i6 i7 i8 i9 i10 i11 i12 i13 i14 i15 i16 i17 i18 i19 i20 i21 i22 i23 i24 i25 i26 i27 i28 i29 i30 i31 i32 nm d sj A r c b W rv hrv
  have hN0' := Lib.hid hN0
  have hW' := Lib.hid hW
  have hi32' := Lib.hid hi32
  have hs' := Lib.hid hs
  have hone' := Lib.hid hone
  have hT' := Lib.hid hT
  have hsm' := Lib.hid hsm
  have hrv' := Lib.hid hrv
  clear hN0 hW hi32 hs hone hT hsm hrv
  refine callsIn_wide.1 (callsIn_of_wp_marks (F := Fence.wide) (n := 2) Tryz.func8 rfl trivial ?_)
  refine wpIn_wide.2 ?_
  simp only [Tryz.ntmps8, List.size_toArray, List.length_cons, List.length_nil, Nat.reduceAdd, Nat.reduceSub, Array.replicate_succ, Array.replicate_zero, List.push_toArray, List.append_toArray, List.nil_append, List.cons_append]
  obtain ⟨Q, hQ⟩ : ∃ Q, Q = bodyPostM Fence.wide 2 Tryz.prog Tryz.f8 (fun e w' => e = .returned (.bool true) ∧ Below w.heap.size w w') := ⟨_, rfl⟩
  rw [← hQ]
  have hQ' := Lib.hid hQ
  clear hQ
  go_wp2_with (first
    | (rw [← hW'.out])
    | (go_at_call 13; fail))
  refine (known_any _ (hT'.out.below hN0'.out.bel)).mono ?_
  rintro e w1 ⟨rfl, hb⟩
  have hN1 := Lib.hid (hN0'.out.below hb)
  clear hb
  go_wp2_with (first
    | (refine wpList_load_guard rfl 34 _ rfl w.heap.size 0 rfl _ _ hN1.out.all Tryz.underlying34 rfl rfl ?_)
    | (go_at_call 25; fail))
  refine (hsm'.out w1).mono ?_
  rintro e w2 ⟨⟨x, rfl, hx⟩, hb⟩
  have hN2 := Lib.hid (hN1.out.below hb)
  clear hb
  cases x with
  | false =>
    go_wp2_with (go_at_call 13; fail)
    refine (known_any _ (hT'.out.below hN2.out.bel)).mono ?_
    rintro e w3 ⟨rfl, hb⟩
    have hN3 := Lib.hid (hN2.out.below hb)
    have q1 := cells_at (cs := [.bool false]) hN3.out.rs 0 _ rfl
    have q2 : w3.frozen? ⟨w.heap.size + 1, 0, none⟩ = false := frozen_of_row w3 _ 0 _ _ hN3.out.rs
    clear hb
    go_wp2_with fail
    rw [hQ'.out]
    refine ⟨.bool true, ?_, rfl, hN3.out.bel.setCell (p := ⟨w.heap.size + 1, 0, none⟩) (Nat.le_succ _) _⟩
    exact res_bool Tryz.results8 _ _ (w.heap.size + 1) true rfl (cells_at (cs := [.bool true]) (heap_setCell_same w3 _ 0 _ _ _ hN3.out.rs) 0 _ rfl)
  | true =>
    have hr30 : r ≤ 30 := hx rfl
    have c0 := hN2.out.at 0 _ rfl
    have c1 := hN2.out.at 1 _ rfl
    go_wp2_with (go_at_call 20; fail)
    refine (range_nil g 0 n _).mono ?_
    rintro e w3 ⟨rfl, hcl, hb, hs3⟩
    have hN3 := Lib.hid (hN2.out.below hb)
    have hcl' := Lib.hid hcl
    have hs3' := Lib.hid hs3
    clear c0 c1 hb hcl hs3
    go_wp2_with fail
    refine wp_range_none 54 #[.pointer (some ⟨w2.heap.size, 0, none⟩), .pointer (some ⟨w2.heap.size + 1, 0, none⟩), .pointer (some ⟨w2.heap.size + 2, 0, none⟩), .pointer (some ⟨w2.heap.size + 3, 0, none⟩)] rfl (enters_of Tryz.func54 (by kernel_rfl) rfl) (fun y W' hb => ?_) (fun D W4 hD hb4 hK => ?_)
    · exact range1_nil y _ _ _ w2.heap.size W' ((hb.cell (p := ⟨w2.heap.size, 0, none⟩) (by have := hs3'.out; show w2.heap.size < _; omega)).trans hcl'.out)
    have hN4 := Lib.hid (hN3.out.below hb4)
    have hK4 := Lib.hid hK
    have hD' : Hid (w.heap.size + 1 < D) := Nat.lt_of_lt_of_le (Array.getElem?_eq_some_iff.1 hN3.out.rs).1 hD
    clear hcl' hs3' hb4 hK hD
    have hB4 := Lib.hid (Below.refl W4.heap.size W4)
    have hzz := Tryz.zero_zl
    have c0 := hN4.out.at 0 _ rfl
    have c1 := hN4.out.at 1 _ rfl
    go_wp2_with (first | (go_at_call 31; fail))
    refine (get_nil g n _).mono ?_
    rintro e w5 ⟨rfl, hb⟩
    have hB5 := Lib.hid (hB4.out.trans hb)
    clear c0 c1 hb
    have hZ5 := Lib.hid (hB5.out.trans ((zlW_below w5).mono hB5.out.size))
    have hNz := hN4.out.below hZ5.out
    have c0 := hNz.at 0 _ rfl
    have c1 := hNz.at 1 _ rfl
    unfold zlW at c0 c1
    clear hNz
    go_wp2_with (first | (refine wpList_store_row rfl 44 _ _ rfl w5.heap.size zl.toArray rfl rfl 44 zl.toArray (heap_alloc_new _ _) (by kernel_rfl) rfl zl_one ?_) | (go_at_call 33; fail))
    refine (next_nil g n _).mono ?_
    rintro e w6 ⟨rfl, hb⟩
    have hb' : Below (zlW w5).heap.size (zlW w5) w6 := hb
    have hB6 := Lib.hid (hZ5.out.trans (hb'.mono hZ5.out.size))
    have hz5 := Lib.hid ((hb'.block _ (Array.getElem?_eq_some_iff.1 (zlW_block w5)).1).trans (zlW_block w5))
    clear hb'
    clear c0 c1 hb
    have hZ6 := Lib.hid (hB6.out.trans ((zlW_below w6).mono hB6.out.size))
    have hNz := hN4.out.below hZ6.out
    have c0 := hNz.at 0 _ rfl
    have c1 := hNz.at 1 _ rfl
    unfold zlW at c0 c1
    have hidr := Lib.hid (hNz.ids (ids := i1 :: i2 :: i3 :: i4 :: i5 :: i6 :: i7 :: i8 :: i9 :: i10 :: i11 :: i12 :: i13 :: i14 :: i15 :: i16 :: i17 :: i18 :: i19 :: i20 :: i21 :: i22 :: i23 :: i24 :: i25 :: i26 :: i27 :: i28 :: i29 :: i30 :: i31 :: i32 :: []) (r := .string nm :: .int .i64 d :: .string sj :: rv :: .int .i64 b :: []) rfl)
    unfold zlW at hidr
    clear hNz
    go_wp2_with (first | (refine wpList_store_row rfl 44 _ _ rfl w6.heap.size zl.toArray rfl rfl 44 zl.toArray (heap_alloc_new _ _) (by kernel_rfl) rfl zl_one ?_) | (refine wpList_load_mid rfl 31 _ rfl w.heap.size 2 rfl _ _ hidr.out Tryz.underlying31 rfl rfl ?_) | (go_at_call 35; fail))
    refine (find_nil g i1 i2 i3 i4 i5 i6 i7 i8 i9 i10 i11 i12 i13 i14 i15 i16 i17 i18 i19 i20 i21 i22 i23 i24 i25 i26 i27 i28 i29 i30 i31 i32 _).mono ?_
    rintro e w7 ⟨rfl, hb⟩
    have hb' : Below (zlW w6).heap.size (zlW w6) w7 := hb
    have hB7 := Lib.hid (hZ6.out.trans (hb'.mono hZ6.out.size))
    have hz6 := Lib.hid ((hb'.block _ (Array.getElem?_eq_some_iff.1 (zlW_block w6)).1).trans (zlW_block w6))
    have hz5 := Lib.hid ((hb'.block _ (Nat.lt_of_lt_of_le (Array.getElem?_eq_some_iff.1 hz5.out).1 (zlW_below w6).size)).trans (((zlW_below w6).block _ (Array.getElem?_eq_some_iff.1 hz5.out).1).trans hz5.out))
    clear hb'
    clear c0 c1 hb
    have hZ7 := Lib.hid (hB7.out.trans ((zlW_below w7).mono hB7.out.size))
    have hNz := hN4.out.below hZ7.out
    have c0 := hNz.at 0 _ rfl
    have c1 := hNz.at 1 _ rfl
    unfold zlW at c0 c1
    clear hNz
    go_wp2_with (first | (refine wpList_store_row rfl 44 _ _ rfl w7.heap.size zl.toArray rfl rfl 44 zl.toArray (heap_alloc_new _ _) (by kernel_rfl) rfl zl_one ?_) | (go_at_call 34; fail))
    refine (previous_nil g n _).mono ?_
    rintro e w8 ⟨rfl, hb⟩
    have hb' : Below (zlW w7).heap.size (zlW w7) w8 := hb
    have hB8 := Lib.hid (hZ7.out.trans (hb'.mono hZ7.out.size))
    have hz7 := Lib.hid ((hb'.block _ (Array.getElem?_eq_some_iff.1 (zlW_block w7)).1).trans (zlW_block w7))
    have hz5 := Lib.hid ((hb'.block _ (Nat.lt_of_lt_of_le (Array.getElem?_eq_some_iff.1 hz5.out).1 (zlW_below w7).size)).trans (((zlW_below w7).block _ (Array.getElem?_eq_some_iff.1 hz5.out).1).trans hz5.out))
    have hz6 := Lib.hid ((hb'.block _ (Nat.lt_of_lt_of_le (Array.getElem?_eq_some_iff.1 hz6.out).1 (zlW_below w7).size)).trans (((zlW_below w7).block _ (Array.getElem?_eq_some_iff.1 hz6.out).1).trans hz6.out))
    clear hb'
    clear c0 c1 hb
    have hZ8 := Lib.hid (hB8.out.trans ((zlW_below w8).mono hB8.out.size))
    have hNz := hN4.out.below hZ8.out
    have c0 := hNz.at 0 _ rfl
    have c1 := hNz.at 1 _ rfl
    unfold zlW at c0 c1
    clear hNz
    clear c0 c1
    have y5 := Lib.hid (((zlW_below w8).block _ (Array.getElem?_eq_some_iff.1 hz5.out).1).trans hz5.out)
    have y6 := Lib.hid (((zlW_below w8).block _ (Array.getElem?_eq_some_iff.1 hz6.out).1).trans hz6.out)
    have y7 := Lib.hid (((zlW_below w8).block _ (Array.getElem?_eq_some_iff.1 hz7.out).1).trans hz7.out)
    have y8 := Lib.hid (zlW_block w8)
    have hr5 := range_zl y5.out
    unfold zlW at hr5
    have hr5' := Lib.hid hr5
    clear hr5
    go_wp2_with (first | (refine wpList_store_row rfl 44 _ _ rfl w8.heap.size zl.toArray rfl rfl 44 zl.toArray (heap_alloc_new _ _) (by kernel_rfl) rfl zl_one ?_) | (refine wpList_load_guard rfl 44 _ rfl w5.heap.size 0 rfl zl _ hr5'.out Tryz.underlying44 rfl rfl ?_) | (go_at_call 32; fail))
    refine (zero_zl _).mono ?_
    rintro e w9 ⟨rfl, hb⟩
    have hb' : Below (zlW w8).heap.size (zlW w8) w9 := hb
    have hB9 := Lib.hid (hZ8.out.trans (hb'.mono hZ8.out.size))
    have y6 := Lib.hid ((hb'.block _ (Array.getElem?_eq_some_iff.1 y6.out).1).trans y6.out)
    have y7 := Lib.hid ((hb'.block _ (Array.getElem?_eq_some_iff.1 y7.out).1).trans y7.out)
    have y8 := Lib.hid ((hb'.block _ (Array.getElem?_eq_some_iff.1 y8.out).1).trans y8.out)
    clear hb hb'
    have hr6' := Lib.hid (range_zl y6.out)
    go_wp2_with (first | (refine wpList_load_guard rfl 44 _ rfl w6.heap.size 0 rfl zl _ hr6'.out Tryz.underlying44 rfl rfl ?_) | (go_at_call 32; fail))
    refine (zero_zl _).mono ?_
    rintro e w10 ⟨rfl, hb⟩
    have hb' : Below (w9).heap.size (w9) w10 := hb
    have hB10 := Lib.hid (hB9.out.trans (hb'.mono hB9.out.size))
    have y7 := Lib.hid ((hb'.block _ (Array.getElem?_eq_some_iff.1 y7.out).1).trans y7.out)
    have y8 := Lib.hid ((hb'.block _ (Array.getElem?_eq_some_iff.1 y8.out).1).trans y8.out)
    clear hb hb'
    have hr7' := Lib.hid (range_zl y7.out)
    go_wp2_with (first | (refine wpList_load_guard rfl 44 _ rfl w7.heap.size 0 rfl zl _ hr7'.out Tryz.underlying44 rfl rfl ?_) | (go_at_call 32; fail))
    refine (zero_zl _).mono ?_
    rintro e w11 ⟨rfl, hb⟩
    have hb' : Below (w10).heap.size (w10) w11 := hb
    have hB11 := Lib.hid (hB10.out.trans (hb'.mono hB10.out.size))
    have y8 := Lib.hid ((hb'.block _ (Array.getElem?_eq_some_iff.1 y8.out).1).trans y8.out)
    clear hb hb'
    have hr8' := Lib.hid (range_zl y8.out)
    go_wp2_with (first | (refine wpList_load_guard rfl 44 _ rfl w8.heap.size 0 rfl zl _ hr8'.out Tryz.underlying44 rfl rfl ?_) | (go_at_call 32; fail))
    refine (zero_zl _).mono ?_
    rintro e w12 ⟨rfl, hb⟩
    have hb' : Below (w11).heap.size (w11) w12 := hb
    have hB12 := Lib.hid (hB11.out.trans (hb'.mono hB11.out.size))
    clear hb hb'
    have hN12 := Lib.hid (hN4.out.below hB12.out)
    go_wp2_with fail
    obtain ⟨V, hV⟩ : ∃ V, V = w12 := ⟨_, rfl⟩
    rw [← hV] at hN12 hB12 ⊢
    clear hV
    have hne' : Hid (w.heap.size ≠ w.heap.size + 1) := by show _ ≠ _; omega
    have hd0 := Lib.hid (hN12.out.at 0 _ rfl)
    have hd1 := Lib.hid (hN12.out.at 1 _ rfl)
    have hall := Lib.hid hN12.out.all
    have hids := Lib.hid (hN12.out.ids (ids := i1 :: i2 :: i3 :: i4 :: i5 :: i6 :: i7 :: i8 :: i9 :: i10 :: i11 :: i12 :: i13 :: i14 :: i15 :: i16 :: i17 :: i18 :: i19 :: i20 :: i21 :: i22 :: i23 :: i24 :: i25 :: i26 :: i27 :: i28 :: i29 :: i30 :: i31 :: i32 :: []) (r := .string nm :: .int .i64 d :: .string sj :: rv :: .int .i64 b :: []) rfl)
    refine wp_region_noPanic ?_
    have hH0 : KeptM (w.heap.size + 1) V V.drew := ⟨rfl, rfl, rfl, Nat.le_refl _, fun _ _ _ => rfl⟩
    have hF0 : Below V.heap.size V V.drew := (Below.refl _ _).drew
    refine wp_region_held_drew (S := (fun W' => KeptM (w.heap.size + 1) V W')) (by kernel_rfl) hH0 (fun _ => ?_)
    refine wpAnyH_take (i := 0) (oi := { dst := some 93, op := Op.move (Operand.tmp 3), type := 25, pos := "law.go:348", after := #[], guard := none }) (v := (.pointer none)) rfl (by kernel_rfl) (by kernel_rfl) (by kernel_rfl) (fun _ _ _ h => h) (Or.inl ⟨by rfl, fun W' hSw => by clear hSw; go_simp⟩) hH0 ?_
    try simp only [Act.put, List.setIfInBounds_toArray, List.set_cons_zero, List.set_cons_succ]
    refine wpAnyH_take (i := 1) (oi := { dst := some 94, op := Op.fieldAddr 34 (Operand.tmp 1) 0, type := 0, pos := "law.go:348", after := #[], guard := none }) (v := (.pointer (some ⟨w.heap.size, 0, none⟩))) rfl (by kernel_rfl) (by kernel_rfl) (by kernel_rfl) (fun _ _ _ h => h) (Or.inl ⟨by rfl, fun W' hSw => by clear hSw; go_simp⟩) hH0 ?_
    try simp only [Act.put, List.setIfInBounds_toArray, List.set_cons_zero, List.set_cons_succ]
    refine wpAnyH_take (i := 2) (oi := { dst := some 95, op := Op.load 9 (Operand.tmp 94), type := 9, pos := "law.go:348", after := #[{ on := 1, ground := Ground.data }], guard := none }) (v := (.string g)) rfl (by kernel_rfl) (by kernel_rfl) (by kernel_rfl) (fun _ _ _ h => h) (Or.inl ⟨by rfl, fun W' hSw => by have c := KeptM.cell hSw hne'.out hd0.out; clear hSw; go_simp⟩) hH0 ?_
    try simp only [Act.put, List.setIfInBounds_toArray, List.set_cons_zero, List.set_cons_succ]
    refine wpAnyH_take (i := 3) (oi := { dst := some 96, op := Op.load 34 (Operand.tmp 1), type := 34, pos := "law.go:348", after := #[], guard := none }) (v := (.agg ((.string g :: .int .i64 n :: i1 :: i2 :: i3 :: i4 :: i5 :: i6 :: i7 :: i8 :: i9 :: i10 :: i11 :: i12 :: i13 :: i14 :: i15 :: i16 :: i17 :: i18 :: i19 :: i20 :: i21 :: i22 :: i23 :: i24 :: i25 :: i26 :: i27 :: i28 :: i29 :: i30 :: i31 :: i32 :: .string nm :: .int .i64 d :: .string sj :: rv :: .int .i64 b :: [])).toArray)) rfl (by kernel_rfl) (by kernel_rfl) (by kernel_rfl) (fun _ _ _ h => h) (yieldsIf_load_mid (by rfl) _ _ rfl w.heap.size 0 rfl ((.string g :: .int .i64 n :: i1 :: i2 :: i3 :: i4 :: i5 :: i6 :: i7 :: i8 :: i9 :: i10 :: i11 :: i12 :: i13 :: i14 :: i15 :: i16 :: i17 :: i18 :: i19 :: i20 :: i21 :: i22 :: i23 :: i24 :: i25 :: i26 :: i27 :: i28 :: i29 :: i30 :: i31 :: i32 :: .string nm :: .int .i64 d :: .string sj :: rv :: .int .i64 b :: [])) _ (fun W' hW j v hj => KeptM.cell hW hne'.out (hall.out j v hj)) Tryz.underlying34 rfl (by kernel_rfl)) hH0 ?_
    try simp only [Act.put, List.setIfInBounds_toArray, List.set_cons_zero, List.set_cons_succ]
    refine wpAnyH_ready (rs := [4]) (by kernel_rfl) (by simp) ?_
    refine AllReadyH.cons (o := { dst := some 97, op := Op.call { callee := Callee.value (Operand.func 27), args := #[Operand.tmp 96], argTypes := #[34] }, type := 44, pos := "law.go:348", after := #[{ on := 3, ground := Ground.data }], guard := none }) rfl (fun K hK => ?_) AllReadyH.nil
    go_simp
    go_at_call 27
    refine (own_any g n i1 i2 i3 i4 i5 i6 i7 i8 i9 i10 i11 i12 i13 i14 i15 i16 i17 i18 i19 i20 i21 i22 i23 i24 i25 i26 i27 i28 i29 i30 i31 i32 nm d sj rv r ys b _ hi32'.out (hs'.out.below (hN12.out.bel.trans (hF0.mono hN12.out.bel.size))) hone'.out (by omega)).mono ?_
    rintro e X1 ⟨v2, rfl, _, hb⟩
    have hF1 : Below V.heap.size V X1 := hF0.trans (hb.mono hF0.size)
    have hH1 := hH0.below hb
    refine hK.out _ _ hH1 (fun _ => ?_)
    clear hK hb
    try simp only [Act.put, List.setIfInBounds_toArray, List.set_cons_zero, List.set_cons_succ]
    refine wpAnyH_ready (rs := [5]) (by kernel_rfl) (by simp) ?_
    refine AllReadyH.cons (o := { dst := some 98, op := Op.call { callee := Callee.value (Operand.func 24), args := #[Operand.tmp 93, Operand.tmp 95, Operand.tmp 97], argTypes := #[25, 9, 44] }, type := 47, pos := "law.go:348", after := #[{ on := 0, ground := Ground.data }, { on := 2, ground := Ground.data }, { on := 4, ground := Ground.data }, { on := 4, ground := Ground.chain }], guard := none }) rfl (fun K hK => ?_) AllReadyH.nil
    go_simp
    go_at_call 24
    refine (add_nil g _ _ rfl).mono ?_
    rintro e X2 ⟨rfl, hb⟩
    have hF2 : Below V.heap.size V X2 := hF1.trans (hb.mono hF1.size)
    have hH2 := hH1.below hb
    refine hK.out _ _ hH2 (fun _ => ?_)
    clear hK hb
    try simp only [Act.put, List.setIfInBounds_toArray, List.set_cons_zero, List.set_cons_succ]
    refine wpAnyH_take (i := 6) (oi := { dst := some 99, op := Op.binOp BinOp.eql 47 (Operand.tmp 98) (Operand.const (Value.int IntKind.i64 1)) 47, type := 4, pos := "law.go:348", after := #[{ on := 5, ground := Ground.data }], guard := none }) (v := (.bool true)) rfl (by kernel_rfl) (by kernel_rfl) (by kernel_rfl) (fun _ _ _ h => h) (Or.inl ⟨by rfl, fun W' hSw => by clear hSw; go_simp⟩) hH2 ?_
    try simp only [Act.put, List.setIfInBounds_toArray, List.set_cons_zero, List.set_cons_succ]
    refine wpAnyH_take (i := 7) (oi := { dst := some 100, op := Op.move (Operand.tmp 99), type := 4, pos := "law.go:348", after := #[{ on := 6, ground := Ground.data }, { on := 5, ground := Ground.chain }], guard := none }) (v := (.bool true)) rfl (by kernel_rfl) (by kernel_rfl) (by kernel_rfl) (fun _ _ _ h => h) (Or.inl ⟨by rfl, fun W' hSw => by clear hSw; go_simp⟩) hH2 ?_
    try simp only [Act.put, List.setIfInBounds_toArray, List.set_cons_zero, List.set_cons_succ]
    refine wpAnyH_take (i := 8) (oi := { dst := some 101, op := Op.move (Operand.tmp 3), type := 25, pos := "law.go:348", after := #[{ on := 7, ground := Ground.guard }], guard := some (7, true) }) (v := (.pointer none)) rfl (by kernel_rfl) (by kernel_rfl) (by kernel_rfl) (fun _ _ _ h => h) (Or.inl ⟨by rfl, fun W' hSw => by clear hSw; go_simp⟩) hH2 ?_
    try simp only [Act.put, List.setIfInBounds_toArray, List.set_cons_zero, List.set_cons_succ]
    refine wpAnyH_take (i := 9) (oi := { dst := some 102, op := Op.fieldAddr 34 (Operand.tmp 1) 0, type := 0, pos := "law.go:348", after := #[{ on := 7, ground := Ground.guard }], guard := some (7, true) }) (v := (.pointer (some ⟨w.heap.size, 0, none⟩))) rfl (by kernel_rfl) (by kernel_rfl) (by kernel_rfl) (fun _ _ _ h => h) (Or.inl ⟨by rfl, fun W' hSw => by clear hSw; go_simp⟩) hH2 ?_
    try simp only [Act.put, List.setIfInBounds_toArray, List.set_cons_zero, List.set_cons_succ]
    refine wpAnyH_take (i := 10) (oi := { dst := some 103, op := Op.load 9 (Operand.tmp 102), type := 9, pos := "law.go:348", after := #[{ on := 9, ground := Ground.data }, { on := 7, ground := Ground.guard }], guard := some (7, true) }) (v := (.string g)) rfl (by kernel_rfl) (by kernel_rfl) (by kernel_rfl) (fun _ _ _ h => h) (Or.inl ⟨by rfl, fun W' hSw => by have c := KeptM.cell hSw hne'.out hd0.out; clear hSw; go_simp⟩) hH2 ?_
    try simp only [Act.put, List.setIfInBounds_toArray, List.set_cons_zero, List.set_cons_succ]
    refine wpAnyH_take (i := 11) (oi := { dst := some 104, op := Op.fieldAddr 34 (Operand.tmp 1) 1, type := 0, pos := "law.go:348", after := #[{ on := 7, ground := Ground.guard }], guard := some (7, true) }) (v := (.pointer (some ⟨w.heap.size, 1, none⟩))) rfl (by kernel_rfl) (by kernel_rfl) (by kernel_rfl) (fun _ _ _ h => h) (Or.inl ⟨by rfl, fun W' hSw => by clear hSw; go_simp⟩) hH2 ?_
    try simp only [Act.put, List.setIfInBounds_toArray, List.set_cons_zero, List.set_cons_succ]
    refine wpAnyH_take (i := 12) (oi := { dst := some 105, op := Op.load 3 (Operand.tmp 104), type := 3, pos := "law.go:348", after := #[{ on := 11, ground := Ground.data }, { on := 7, ground := Ground.guard }], guard := some (7, true) }) (v := (.int .i64 n)) rfl (by kernel_rfl) (by kernel_rfl) (by kernel_rfl) (fun _ _ _ h => h) (Or.inl ⟨by rfl, fun W' hSw => by have c := KeptM.cell hSw hne'.out hd1.out; clear hSw; go_simp⟩) hH2 ?_
    try simp only [Act.put, List.setIfInBounds_toArray, List.set_cons_zero, List.set_cons_succ]
    refine wpAnyH_ready (rs := [13]) (by kernel_rfl) (by simp) ?_
    refine AllReadyH.cons (o := { dst := some 106, op := Op.call { callee := Callee.value (Operand.func 23), args := #[Operand.tmp 101, Operand.tmp 103, Operand.tmp 105], argTypes := #[25, 9, 3] }, type := 47, pos := "law.go:348", after := #[{ on := 8, ground := Ground.data }, { on := 10, ground := Ground.data }, { on := 12, ground := Ground.data }, { on := 7, ground := Ground.chain }, { on := 7, ground := Ground.guard }], guard := some (7, true) }) rfl (fun K hK => ?_) AllReadyH.nil
    go_simp
    go_at_call 23
    refine (remove_nil g n _).mono ?_
    rintro e X9 ⟨rfl, rfl⟩
    refine hK.out _ _ hH2 (fun _ => ?_)
    clear hK
    try simp only [Act.put, List.setIfInBounds_toArray, List.set_cons_zero, List.set_cons_succ]
    refine wpAnyH_take (i := 14) (oi := { dst := some 107, op := Op.binOp BinOp.eql 47 (Operand.tmp 106) (Operand.const (Value.int IntKind.i64 1)) 47, type := 4, pos := "law.go:348", after := #[{ on := 13, ground := Ground.data }, { on := 7, ground := Ground.guard }], guard := some (7, true) }) (v := (.bool true)) rfl (by kernel_rfl) (by kernel_rfl) (by kernel_rfl) (fun _ _ _ h => h) (Or.inl ⟨by rfl, fun W' hSw => by clear hSw; go_simp⟩) hH2 ?_
    try simp only [Act.put, List.setIfInBounds_toArray, List.set_cons_zero, List.set_cons_succ]
    refine wpAnyH_take (i := 15) (oi := { dst := some 108, op := Op.pick (Operand.tmp 100) (Operand.tmp 107) (Operand.const (Value.bool false)), type := 4, pos := "law.go:348", after := #[{ on := 7, ground := Ground.data }, { on := 14, ground := Ground.data }], guard := none }) (v := (.bool true)) rfl (by kernel_rfl) (by kernel_rfl) (by kernel_rfl) (fun _ _ _ h => h) (Or.inl ⟨by rfl, fun W' hSw => by clear hSw; go_simp⟩) hH2 ?_
    try simp only [Act.put, List.setIfInBounds_toArray, List.set_cons_zero, List.set_cons_succ]
    refine wpAnyH_take (i := 16) (oi := { dst := some 109, op := Op.move (Operand.tmp 108), type := 4, pos := "law.go:348", after := #[{ on := 15, ground := Ground.data }, { on := 13, ground := Ground.chain }], guard := none }) (v := (.bool true)) rfl (by kernel_rfl) (by kernel_rfl) (by kernel_rfl) (fun _ _ _ h => h) (Or.inl ⟨by rfl, fun W' hSw => by clear hSw; go_simp⟩) hH2 ?_
    try simp only [Act.put, List.setIfInBounds_toArray, List.set_cons_zero, List.set_cons_succ]
    refine wpAnyH_take (i := 17) (oi := { dst := some 110, op := Op.move (Operand.tmp 3), type := 25, pos := "law.go:348", after := #[{ on := 16, ground := Ground.guard }], guard := some (16, true) }) (v := (.pointer none)) rfl (by kernel_rfl) (by kernel_rfl) (by kernel_rfl) (fun _ _ _ h => h) (Or.inl ⟨by rfl, fun W' hSw => by clear hSw; go_simp⟩) hH2 ?_
    try simp only [Act.put, List.setIfInBounds_toArray, List.set_cons_zero, List.set_cons_succ]
    refine wpAnyH_take (i := 18) (oi := { dst := some 111, op := Op.fieldAddr 34 (Operand.tmp 1) 2, type := 0, pos := "law.go:348", after := #[{ on := 16, ground := Ground.guard }], guard := some (16, true) }) (v := (.pointer (some ⟨w.heap.size, 2, none⟩))) rfl (by kernel_rfl) (by kernel_rfl) (by kernel_rfl) (fun _ _ _ h => h) (Or.inl ⟨by rfl, fun W' hSw => by clear hSw; go_simp⟩) hH2 ?_
    try simp only [Act.put, List.setIfInBounds_toArray, List.set_cons_zero, List.set_cons_succ]
    refine wpAnyH_take (i := 19) (oi := { dst := some 112, op := Op.load 31 (Operand.tmp 111), type := 31, pos := "law.go:348", after := #[{ on := 18, ground := Ground.data }, { on := 16, ground := Ground.guard }], guard := some (16, true) }) (v := (.agg (i1 :: i2 :: i3 :: i4 :: i5 :: i6 :: i7 :: i8 :: i9 :: i10 :: i11 :: i12 :: i13 :: i14 :: i15 :: i16 :: i17 :: i18 :: i19 :: i20 :: i21 :: i22 :: i23 :: i24 :: i25 :: i26 :: i27 :: i28 :: i29 :: i30 :: i31 :: i32 :: []).toArray)) rfl (by kernel_rfl) (by kernel_rfl) (by kernel_rfl) (fun _ _ _ h => h) (yieldsIf_load_mid (by rfl) _ _ rfl w.heap.size 2 rfl (i1 :: i2 :: i3 :: i4 :: i5 :: i6 :: i7 :: i8 :: i9 :: i10 :: i11 :: i12 :: i13 :: i14 :: i15 :: i16 :: i17 :: i18 :: i19 :: i20 :: i21 :: i22 :: i23 :: i24 :: i25 :: i26 :: i27 :: i28 :: i29 :: i30 :: i31 :: i32 :: []) _ (fun W' hW j v hj => KeptM.cell hW hne'.out (hids.out j v hj)) Tryz.underlying31 rfl (by kernel_rfl)) hH2 ?_
    try simp only [Act.put, List.setIfInBounds_toArray, List.set_cons_zero, List.set_cons_succ]
    refine wpAnyH_ready (rs := [20]) (by kernel_rfl) (by simp) ?_
    refine AllReadyH.cons (o := { dst := some 113, op := Op.call { callee := Callee.value (Operand.func 40), args := #[Operand.tmp 110, Operand.tmp 112], argTypes := #[25, 31] }, type := 3, pos := "law.go:348", after := #[{ on := 17, ground := Ground.data }, { on := 19, ground := Ground.data }, { on := 16, ground := Ground.chain }, { on := 16, ground := Ground.guard }], guard := some (16, true) }) rfl (fun K hK => ?_) AllReadyH.nil
    go_simp
    go_at_call 40
    refine (removeid_nil i1 i2 i3 i4 i5 i6 i7 i8 i9 i10 i11 i12 i13 i14 i15 i16 i17 i18 i19 i20 i21 i22 i23 i24 i25 i26 i27 i28 i29 i30 i31 i32 _).mono ?_
    rintro e X3 ⟨rfl, hb⟩
    have hF3 : Below V.heap.size V X3 := hF2.trans (hb.mono hF2.size)
    have hH3 := hH2.below hb
    refine hK.out _ _ hH3 (fun _ => ?_)
    clear hK hb
    try simp only [Act.put, List.setIfInBounds_toArray, List.set_cons_zero, List.set_cons_succ]
    refine wpAnyH_take (i := 21) (oi := { dst := some 114, op := Op.binOp BinOp.eql 3 (Operand.tmp 113) (Operand.const (Value.int IntKind.i64 0)) 3, type := 4, pos := "law.go:348", after := #[{ on := 20, ground := Ground.data }, { on := 16, ground := Ground.guard }], guard := some (16, true) }) (v := (.bool true)) rfl (by kernel_rfl) (by kernel_rfl) (by kernel_rfl) (fun _ _ _ h => h) (Or.inl ⟨by rfl, fun W' hSw => by clear hSw; go_simp⟩) hH3 ?_
    try simp only [Act.put, List.setIfInBounds_toArray, List.set_cons_zero, List.set_cons_succ]
    refine wpAnyH_take (i := 22) (oi := { dst := some 115, op := Op.pick (Operand.tmp 109) (Operand.tmp 114) (Operand.const (Value.bool false)), type := 4, pos := "law.go:348", after := #[{ on := 16, ground := Ground.data }, { on := 21, ground := Ground.data }], guard := none }) (v := (.bool true)) rfl (by kernel_rfl) (by kernel_rfl) (by kernel_rfl) (fun _ _ _ h => h) (Or.inl ⟨by rfl, fun W' hSw => by clear hSw; go_simp⟩) hH3 ?_
    try simp only [Act.put, List.setIfInBounds_toArray, List.set_cons_zero, List.set_cons_succ]
    refine wpAnyH_take (i := 23) (oi := { dst := some 116, op := Op.move (Operand.tmp 115), type := 4, pos := "law.go:348", after := #[{ on := 22, ground := Ground.data }, { on := 20, ground := Ground.chain }], guard := none }) (v := (.bool true)) rfl (by kernel_rfl) (by kernel_rfl) (by kernel_rfl) (fun _ _ _ h => h) (Or.inl ⟨by rfl, fun W' hSw => by clear hSw; go_simp⟩) hH3 ?_
    try simp only [Act.put, List.setIfInBounds_toArray, List.set_cons_zero, List.set_cons_succ]
    refine wpAnyH_take (i := 24) (oi := { dst := some 117, op := Op.move (Operand.tmp 3), type := 25, pos := "law.go:348", after := #[{ on := 23, ground := Ground.guard }], guard := some (23, true) }) (v := (.pointer none)) rfl (by kernel_rfl) (by kernel_rfl) (by kernel_rfl) (fun _ _ _ h => h) (Or.inl ⟨by rfl, fun W' hSw => by clear hSw; go_simp⟩) hH3 ?_
    try simp only [Act.put, List.setIfInBounds_toArray, List.set_cons_zero, List.set_cons_succ]
    refine wpAnyH_take (i := 25) (oi := { dst := some 118, op := Op.fieldAddr 34 (Operand.tmp 1) 2, type := 0, pos := "law.go:348", after := #[{ on := 23, ground := Ground.guard }], guard := some (23, true) }) (v := (.pointer (some ⟨w.heap.size, 2, none⟩))) rfl (by kernel_rfl) (by kernel_rfl) (by kernel_rfl) (fun _ _ _ h => h) (Or.inl ⟨by rfl, fun W' hSw => by clear hSw; go_simp⟩) hH3 ?_
    try simp only [Act.put, List.setIfInBounds_toArray, List.set_cons_zero, List.set_cons_succ]
    refine wpAnyH_take (i := 26) (oi := { dst := some 119, op := Op.load 31 (Operand.tmp 118), type := 31, pos := "law.go:348", after := #[{ on := 25, ground := Ground.data }, { on := 23, ground := Ground.guard }], guard := some (23, true) }) (v := (.agg (i1 :: i2 :: i3 :: i4 :: i5 :: i6 :: i7 :: i8 :: i9 :: i10 :: i11 :: i12 :: i13 :: i14 :: i15 :: i16 :: i17 :: i18 :: i19 :: i20 :: i21 :: i22 :: i23 :: i24 :: i25 :: i26 :: i27 :: i28 :: i29 :: i30 :: i31 :: i32 :: []).toArray)) rfl (by kernel_rfl) (by kernel_rfl) (by kernel_rfl) (fun _ _ _ h => h) (yieldsIf_load_mid (by rfl) _ _ rfl w.heap.size 2 rfl (i1 :: i2 :: i3 :: i4 :: i5 :: i6 :: i7 :: i8 :: i9 :: i10 :: i11 :: i12 :: i13 :: i14 :: i15 :: i16 :: i17 :: i18 :: i19 :: i20 :: i21 :: i22 :: i23 :: i24 :: i25 :: i26 :: i27 :: i28 :: i29 :: i30 :: i31 :: i32 :: []) _ (fun W' hW j v hj => KeptM.cell hW hne'.out (hids.out j v hj)) Tryz.underlying31 rfl (by kernel_rfl)) hH3 ?_
    try simp only [Act.put, List.setIfInBounds_toArray, List.set_cons_zero, List.set_cons_succ]
    refine wpAnyH_ready (rs := [27]) (by kernel_rfl) (by simp) ?_
    refine AllReadyH.cons (o := { dst := some 120, op := Op.call { callee := Callee.value (Operand.func 36), args := #[Operand.tmp 117, Operand.tmp 119], argTypes := #[25, 31] }, type := 63, pos := "law.go:348", after := #[{ on := 24, ground := Ground.data }, { on := 26, ground := Ground.data }, { on := 23, ground := Ground.chain }, { on := 23, ground := Ground.guard }], guard := some (23, true) }) rfl (fun K hK => ?_) AllReadyH.nil
    go_simp
    go_at_call 36
    refine (where_nil i1 i2 i3 i4 i5 i6 i7 i8 i9 i10 i11 i12 i13 i14 i15 i16 i17 i18 i19 i20 i21 i22 i23 i24 i25 i26 i27 i28 i29 i30 i31 i32 _).mono ?_
    rintro e X4 ⟨rfl, hb⟩
    have hF4 : Below V.heap.size V X4 := hF3.trans (hb.mono hF3.size)
    have hH4 := hH3.below hb
    refine hK.out _ _ hH4 (fun _ => ?_)
    clear hK hb
    try simp only [Act.put, List.setIfInBounds_toArray, List.set_cons_zero, List.set_cons_succ]
    refine wpAnyH_take (i := 28) (oi := { dst := some 121, op := Op.call { callee := Callee.builtin Builtin.len, args := #[Operand.tmp 120], argTypes := #[63] }, type := 3, pos := "law.go:348", after := #[{ on := 27, ground := Ground.data }, { on := 23, ground := Ground.guard }], guard := some (23, true) }) (v := (.int .i64 0)) rfl (by kernel_rfl) (by kernel_rfl) (by kernel_rfl) (fun _ _ _ h => h) (Or.inl ⟨by rfl, fun W' hSw => by clear hSw; go_simp⟩) hH4 ?_
    try simp only [Act.put, List.setIfInBounds_toArray, List.set_cons_zero, List.set_cons_succ]
    refine wpAnyH_take (i := 29) (oi := { dst := some 122, op := Op.binOp BinOp.eql 3 (Operand.tmp 121) (Operand.const (Value.int IntKind.i64 0)) 3, type := 4, pos := "law.go:348", after := #[{ on := 28, ground := Ground.data }, { on := 23, ground := Ground.guard }], guard := some (23, true) }) (v := (.bool true)) rfl (by kernel_rfl) (by kernel_rfl) (by kernel_rfl) (fun _ _ _ h => h) (Or.inl ⟨by rfl, fun W' hSw => by clear hSw; go_simp⟩) hH4 ?_
    try simp only [Act.put, List.setIfInBounds_toArray, List.set_cons_zero, List.set_cons_succ]
    refine wpAnyH_take (i := 30) (oi := { dst := some 123, op := Op.pick (Operand.tmp 116) (Operand.tmp 122) (Operand.const (Value.bool false)), type := 4, pos := "law.go:348", after := #[{ on := 23, ground := Ground.data }, { on := 29, ground := Ground.data }], guard := none }) (v := (.bool true)) rfl (by kernel_rfl) (by kernel_rfl) (by kernel_rfl) (fun _ _ _ h => h) (Or.inl ⟨by rfl, fun W' hSw => by clear hSw; go_simp⟩) hH4 ?_
    try simp only [Act.put, List.setIfInBounds_toArray, List.set_cons_zero, List.set_cons_succ]
    refine wpAnyH_take (i := 31) (oi := { dst := some 124, op := Op.move (Operand.tmp 123), type := 4, pos := "law.go:348", after := #[{ on := 30, ground := Ground.data }, { on := 27, ground := Ground.chain }], guard := none }) (v := (.bool true)) rfl (by kernel_rfl) (by kernel_rfl) (by kernel_rfl) (fun _ _ _ h => h) (Or.inl ⟨by rfl, fun W' hSw => by clear hSw; go_simp⟩) hH4 ?_
    try simp only [Act.put, List.setIfInBounds_toArray, List.set_cons_zero, List.set_cons_succ]
    refine wpAnyH_take (i := 32) (oi := { dst := some 125, op := Op.move (Operand.tmp 3), type := 25, pos := "law.go:348", after := #[{ on := 31, ground := Ground.guard }], guard := some (31, true) }) (v := (.pointer none)) rfl (by kernel_rfl) (by kernel_rfl) (by kernel_rfl) (fun _ _ _ h => h) (Or.inl ⟨by rfl, fun W' hSw => by clear hSw; go_simp⟩) hH4 ?_
    try simp only [Act.put, List.setIfInBounds_toArray, List.set_cons_zero, List.set_cons_succ]
    refine wpAnyH_ready (rs := [33]) (by kernel_rfl) (by simp) ?_
    refine AllReadyH.cons (o := { dst := some 126, op := Op.call { callee := Callee.value (Operand.func 41), args := #[Operand.tmp 125], argTypes := #[25] }, type := 68, pos := "law.go:348", after := #[{ on := 32, ground := Ground.data }, { on := 31, ground := Ground.chain }, { on := 31, ground := Ground.guard }], guard := some (31, true) }) rfl (fun K hK => ?_) AllReadyH.nil
    go_simp
    go_at_call 41
    refine (groups_nil _).mono ?_
    rintro e X9 ⟨rfl, rfl⟩
    refine hK.out _ _ hH4 (fun _ => ?_)
    clear hK
    try simp only [Act.put, List.setIfInBounds_toArray, List.set_cons_zero, List.set_cons_succ]
    refine wpAnyH_take (i := 34) (oi := { dst := some 127, op := Op.call { callee := Callee.builtin Builtin.len, args := #[Operand.tmp 126], argTypes := #[68] }, type := 3, pos := "law.go:348", after := #[{ on := 33, ground := Ground.data }, { on := 31, ground := Ground.guard }], guard := some (31, true) }) (v := (.int .i64 0)) rfl (by kernel_rfl) (by kernel_rfl) (by kernel_rfl) (fun _ _ _ h => h) (Or.inl ⟨by rfl, fun W' hSw => by clear hSw; go_simp⟩) hH4 ?_
    try simp only [Act.put, List.setIfInBounds_toArray, List.set_cons_zero, List.set_cons_succ]
    refine wpAnyH_take (i := 35) (oi := { dst := some 128, op := Op.binOp BinOp.eql 3 (Operand.tmp 127) (Operand.const (Value.int IntKind.i64 0)) 3, type := 4, pos := "law.go:348", after := #[{ on := 34, ground := Ground.data }, { on := 31, ground := Ground.guard }], guard := some (31, true) }) (v := (.bool true)) rfl (by kernel_rfl) (by kernel_rfl) (by kernel_rfl) (fun _ _ _ h => h) (Or.inl ⟨by rfl, fun W' hSw => by clear hSw; go_simp⟩) hH4 ?_
    try simp only [Act.put, List.setIfInBounds_toArray, List.set_cons_zero, List.set_cons_succ]
    refine wpAnyH_take (i := 36) (oi := { dst := some 129, op := Op.pick (Operand.tmp 124) (Operand.tmp 128) (Operand.const (Value.bool false)), type := 4, pos := "law.go:348", after := #[{ on := 31, ground := Ground.data }, { on := 35, ground := Ground.data }], guard := none }) (v := (.bool true)) rfl (by kernel_rfl) (by kernel_rfl) (by kernel_rfl) (fun _ _ _ h => h) (Or.inl ⟨by rfl, fun W' hSw => by clear hSw; go_simp⟩) hH4 ?_
    try simp only [Act.put, List.setIfInBounds_toArray, List.set_cons_zero, List.set_cons_succ]
    refine wpAnyH_take (i := 37) (oi := { dst := some 130, op := Op.move (Operand.tmp 129), type := 4, pos := "law.go:348", after := #[{ on := 36, ground := Ground.data }, { on := 33, ground := Ground.chain }], guard := none }) (v := (.bool true)) rfl (by kernel_rfl) (by kernel_rfl) (by kernel_rfl) (fun _ _ _ h => h) (Or.inl ⟨by rfl, fun W' hSw => by clear hSw; go_simp⟩) hH4 ?_
    try simp only [Act.put, List.setIfInBounds_toArray, List.set_cons_zero, List.set_cons_succ]
    refine wpAnyH_take (i := 38) (oi := { dst := some 131, op := Op.move (Operand.tmp 3), type := 25, pos := "law.go:348", after := #[{ on := 37, ground := Ground.guard }], guard := some (37, true) }) (v := (.pointer none)) rfl (by kernel_rfl) (by kernel_rfl) (by kernel_rfl) (fun _ _ _ h => h) (Or.inl ⟨by rfl, fun W' hSw => by clear hSw; go_simp⟩) hH4 ?_
    try simp only [Act.put, List.setIfInBounds_toArray, List.set_cons_zero, List.set_cons_succ]
    refine wpAnyH_take (i := 39) (oi := { dst := some 132, op := Op.fieldAddr 34 (Operand.tmp 1) 0, type := 0, pos := "law.go:348", after := #[{ on := 37, ground := Ground.guard }], guard := some (37, true) }) (v := (.pointer (some ⟨w.heap.size, 0, none⟩))) rfl (by kernel_rfl) (by kernel_rfl) (by kernel_rfl) (fun _ _ _ h => h) (Or.inl ⟨by rfl, fun W' hSw => by clear hSw; go_simp⟩) hH4 ?_
    try simp only [Act.put, List.setIfInBounds_toArray, List.set_cons_zero, List.set_cons_succ]
    refine wpAnyH_take (i := 40) (oi := { dst := some 133, op := Op.load 9 (Operand.tmp 132), type := 9, pos := "law.go:348", after := #[{ on := 39, ground := Ground.data }, { on := 37, ground := Ground.guard }], guard := some (37, true) }) (v := (.string g)) rfl (by kernel_rfl) (by kernel_rfl) (by kernel_rfl) (fun _ _ _ h => h) (Or.inl ⟨by rfl, fun W' hSw => by have c := KeptM.cell hSw hne'.out hd0.out; clear hSw; go_simp⟩) hH4 ?_
    try simp only [Act.put, List.setIfInBounds_toArray, List.set_cons_zero, List.set_cons_succ]
    refine wpAnyH_ready (rs := [41]) (by kernel_rfl) (by simp) ?_
    refine AllReadyH.cons (o := { dst := some 134, op := Op.call { callee := Callee.value (Operand.func 42), args := #[Operand.tmp 131, Operand.tmp 133], argTypes := #[25, 9] }, type := 3, pos := "law.go:348", after := #[{ on := 38, ground := Ground.data }, { on := 40, ground := Ground.data }, { on := 37, ground := Ground.chain }, { on := 37, ground := Ground.guard }], guard := some (37, true) }) rfl (fun K hK => ?_) AllReadyH.nil
    go_simp
    go_at_call 42
    refine (len_nil g _).mono ?_
    rintro e X9 ⟨rfl, rfl⟩
    refine hK.out _ _ hH4 (fun _ => ?_)
    clear hK
    try simp only [Act.put, List.setIfInBounds_toArray, List.set_cons_zero, List.set_cons_succ]
    refine wpAnyH_take (i := 42) (oi := { dst := some 135, op := Op.binOp BinOp.eql 3 (Operand.tmp 134) (Operand.const (Value.int IntKind.i64 0)) 3, type := 4, pos := "law.go:348", after := #[{ on := 41, ground := Ground.data }, { on := 37, ground := Ground.guard }], guard := some (37, true) }) (v := (.bool true)) rfl (by kernel_rfl) (by kernel_rfl) (by kernel_rfl) (fun _ _ _ h => h) (Or.inl ⟨by rfl, fun W' hSw => by clear hSw; go_simp⟩) hH4 ?_
    try simp only [Act.put, List.setIfInBounds_toArray, List.set_cons_zero, List.set_cons_succ]
    refine wpAnyH_take (i := 43) (oi := { dst := some 136, op := Op.pick (Operand.tmp 130) (Operand.tmp 135) (Operand.const (Value.bool false)), type := 4, pos := "law.go:348", after := #[{ on := 37, ground := Ground.data }, { on := 42, ground := Ground.data }], guard := none }) (v := (.bool true)) rfl (by kernel_rfl) (by kernel_rfl) (by kernel_rfl) (fun _ _ _ h => h) (Or.inl ⟨by rfl, fun W' hSw => by clear hSw; go_simp⟩) hH4 ?_
    try simp only [Act.put, List.setIfInBounds_toArray, List.set_cons_zero, List.set_cons_succ]
    refine wpAnyH_take (i := 44) (oi := { dst := some 137, op := Op.move (Operand.tmp 136), type := 4, pos := "law.go:348", after := #[{ on := 43, ground := Ground.data }, { on := 41, ground := Ground.chain }], guard := none }) (v := (.bool true)) rfl (by kernel_rfl) (by kernel_rfl) (by kernel_rfl) (fun _ _ _ h => h) (Or.inl ⟨by rfl, fun W' hSw => by clear hSw; go_simp⟩) hH4 ?_
    try simp only [Act.put, List.setIfInBounds_toArray, List.set_cons_zero, List.set_cons_succ]
    refine wpAnyH_take (i := 45) (oi := { dst := some 138, op := Op.move (Operand.tmp 3), type := 25, pos := "law.go:348", after := #[{ on := 44, ground := Ground.guard }], guard := some (44, true) }) (v := (.pointer none)) rfl (by kernel_rfl) (by kernel_rfl) (by kernel_rfl) (fun _ _ _ h => h) (Or.inl ⟨by rfl, fun W' hSw => by clear hSw; go_simp⟩) hH4 ?_
    try simp only [Act.put, List.setIfInBounds_toArray, List.set_cons_zero, List.set_cons_succ]
    refine wpAnyH_ready (rs := [46]) (by kernel_rfl) (by simp) ?_
    refine AllReadyH.cons (o := { dst := some 139, op := Op.call { callee := Callee.value (Operand.func 29), args := #[Operand.tmp 138], argTypes := #[25] }, type := 9, pos := "law.go:348", after := #[{ on := 45, ground := Ground.data }, { on := 44, ground := Ground.chain }, { on := 44, ground := Ground.guard }], guard := some (44, true) }) rfl (fun K hK => ?_) AllReadyH.nil
    go_simp
    go_at_call 29
    refine (encode_nil _).mono ?_
    rintro e X5 ⟨rfl, hb⟩
    have hF5 : Below V.heap.size V X5 := hF4.trans (hb.mono hF4.size)
    have hH5 := hH4.below hb
    refine hK.out _ _ hH5 (fun _ => ?_)
    clear hK hb
    try simp only [Act.put, List.setIfInBounds_toArray, List.set_cons_zero, List.set_cons_succ]
    refine wpAnyH_take (i := 47) (oi := { dst := some 140, op := Op.binOp BinOp.eql 9 (Operand.tmp 139) (Operand.const (Value.string { data := #[] })) 9, type := 4, pos := "law.go:348", after := #[{ on := 46, ground := Ground.data }, { on := 44, ground := Ground.guard }], guard := some (44, true) }) (v := (.bool true)) rfl (by kernel_rfl) (by kernel_rfl) (by kernel_rfl) (fun _ _ _ h => h) (Or.inl ⟨by rfl, fun W' hSw => by clear hSw; go_simp⟩) hH5 ?_
    try simp only [Act.put, List.setIfInBounds_toArray, List.set_cons_zero, List.set_cons_succ]
    refine wpAnyH_take (i := 48) (oi := { dst := some 141, op := Op.pick (Operand.tmp 137) (Operand.tmp 140) (Operand.const (Value.bool false)), type := 4, pos := "law.go:348", after := #[{ on := 44, ground := Ground.data }, { on := 47, ground := Ground.data }], guard := none }) (v := (.bool true)) rfl (by kernel_rfl) (by kernel_rfl) (by kernel_rfl) (fun _ _ _ h => h) (Or.inl ⟨by rfl, fun W' hSw => by clear hSw; go_simp⟩) hH5 ?_
    try simp only [Act.put, List.setIfInBounds_toArray, List.set_cons_zero, List.set_cons_succ]
    refine wpAnyH_take (i := 49) (oi := { dst := some 142, op := Op.move (Operand.tmp 141), type := 4, pos := "law.go:348", after := #[{ on := 48, ground := Ground.data }, { on := 46, ground := Ground.chain }], guard := none }) (v := (.bool true)) rfl (by kernel_rfl) (by kernel_rfl) (by kernel_rfl) (fun _ _ _ h => h) (Or.inl ⟨by rfl, fun W' hSw => by clear hSw; go_simp⟩) hH5 ?_
    try simp only [Act.put, List.setIfInBounds_toArray, List.set_cons_zero, List.set_cons_succ]
    refine wpAnyH_take (i := 50) (oi := { dst := some 143, op := Op.move (Operand.tmp 3), type := 25, pos := "law.go:348", after := #[{ on := 49, ground := Ground.guard }], guard := some (49, true) }) (v := (.pointer none)) rfl (by kernel_rfl) (by kernel_rfl) (by kernel_rfl) (fun _ _ _ h => h) (Or.inl ⟨by rfl, fun W' hSw => by clear hSw; go_simp⟩) hH5 ?_
    try simp only [Act.put, List.setIfInBounds_toArray, List.set_cons_zero, List.set_cons_succ]
    refine wpAnyH_ready (rs := [51]) (by kernel_rfl) (by simp) ?_
    refine AllReadyH.cons (o := { dst := some 144, op := Op.call { callee := Callee.value (Operand.func 37), args := #[Operand.tmp 143], argTypes := #[25] }, type := 25, pos := "law.go:348", after := #[{ on := 50, ground := Ground.data }, { on := 49, ground := Ground.chain }, { on := 49, ground := Ground.guard }], guard := some (49, true) }) rfl (fun K hK => ?_) AllReadyH.nil
    go_simp
    go_at_call 37
    refine (clone_nil _).mono ?_
    rintro e X9 ⟨rfl, rfl⟩
    refine hK.out _ _ hH5 (fun _ => ?_)
    clear hK
    try simp only [Act.put, List.setIfInBounds_toArray, List.set_cons_zero, List.set_cons_succ]
    refine wpAnyH_take (i := 52) (oi := { dst := some 145, op := Op.binOp BinOp.eql 25 (Operand.tmp 144) (Operand.const (Value.pointer none)) 25, type := 4, pos := "law.go:348", after := #[{ on := 51, ground := Ground.data }, { on := 49, ground := Ground.guard }], guard := some (49, true) }) (v := (.bool true)) rfl (by kernel_rfl) (by kernel_rfl) (by kernel_rfl) (fun _ _ _ h => h) (Or.inl ⟨by rfl, fun W' hSw => by clear hSw; go_simp⟩) hH5 ?_
    try simp only [Act.put, List.setIfInBounds_toArray, List.set_cons_zero, List.set_cons_succ]
    refine wpAnyH_take (i := 53) (oi := { dst := some 146, op := Op.pick (Operand.tmp 142) (Operand.tmp 145) (Operand.const (Value.bool false)), type := 4, pos := "law.go:348", after := #[{ on := 49, ground := Ground.data }, { on := 52, ground := Ground.data }], guard := none }) (v := (.bool true)) rfl (by kernel_rfl) (by kernel_rfl) (by kernel_rfl) (fun _ _ _ h => h) (Or.inl ⟨by rfl, fun W' hSw => by clear hSw; go_simp⟩) hH5 ?_
    try simp only [Act.put, List.setIfInBounds_toArray, List.set_cons_zero, List.set_cons_succ]
    refine wpAnyH_take (i := 54) (oi := { dst := some 147, op := Op.move (Operand.tmp 146), type := 4, pos := "law.go:348", after := #[{ on := 53, ground := Ground.data }, { on := 51, ground := Ground.chain }], guard := none }) (v := (.bool true)) rfl (by kernel_rfl) (by kernel_rfl) (by kernel_rfl) (fun _ _ _ h => h) (Or.inl ⟨by rfl, fun W' hSw => by clear hSw; go_simp⟩) hH5 ?_
    try simp only [Act.put, List.setIfInBounds_toArray, List.set_cons_zero, List.set_cons_succ]
    refine wpAnyH_take (i := 55) (oi := { dst := some 148, op := Op.move (Operand.tmp 3), type := 25, pos := "law.go:348", after := #[{ on := 54, ground := Ground.guard }], guard := some (54, true) }) (v := (.pointer none)) rfl (by kernel_rfl) (by kernel_rfl) (by kernel_rfl) (fun _ _ _ h => h) (Or.inl ⟨by rfl, fun W' hSw => by clear hSw; go_simp⟩) hH5 ?_
    try simp only [Act.put, List.setIfInBounds_toArray, List.set_cons_zero, List.set_cons_succ]
    refine wpAnyH_ready (rs := [56]) (by kernel_rfl) (by simp) ?_
    refine AllReadyH.cons (o := { dst := some 149, op := Op.call { callee := Callee.value (Operand.func 28), args := #[Operand.tmp 148, Operand.const (Value.pointer none)], argTypes := #[25, 25] }, type := 4, pos := "law.go:348", after := #[{ on := 55, ground := Ground.data }, { on := 54, ground := Ground.chain }, { on := 54, ground := Ground.guard }], guard := some (54, true) }) rfl (fun K hK => ?_) AllReadyH.nil
    go_simp
    go_at_call 28
    refine (equal_nil_nil _).mono ?_
    rintro e X9 ⟨rfl, rfl⟩
    refine hK.out _ _ hH5 (fun _ => ?_)
    clear hK
    try simp only [Act.put, List.setIfInBounds_toArray, List.set_cons_zero, List.set_cons_succ]
    refine wpAnyH_take (i := 57) (oi := { dst := some 150, op := Op.pick (Operand.tmp 147) (Operand.tmp 149) (Operand.const (Value.bool false)), type := 4, pos := "law.go:348", after := #[{ on := 54, ground := Ground.data }, { on := 56, ground := Ground.data }], guard := none }) (v := (.bool true)) rfl (by kernel_rfl) (by kernel_rfl) (by kernel_rfl) (fun _ _ _ h => h) (Or.inl ⟨by rfl, fun W' hSw => by clear hSw; go_simp⟩) hH5 ?_
    try simp only [Act.put, List.setIfInBounds_toArray, List.set_cons_zero, List.set_cons_succ]
    refine wpAnyH_take (i := 58) (oi := { dst := some 151, op := Op.move (Operand.tmp 150), type := 4, pos := "law.go:348", after := #[{ on := 57, ground := Ground.data }, { on := 56, ground := Ground.chain }], guard := none }) (v := (.bool true)) rfl (by kernel_rfl) (by kernel_rfl) (by kernel_rfl) (fun _ _ _ h => h) (Or.inl ⟨by rfl, fun W' hSw => by clear hSw; go_simp⟩) hH5 ?_
    try simp only [Act.put, List.setIfInBounds_toArray, List.set_cons_zero, List.set_cons_succ]
    refine wpAnyH_take (i := 59) (oi := { dst := some 152, op := Op.move (Operand.tmp 3), type := 25, pos := "law.go:348", after := #[{ on := 58, ground := Ground.guard }], guard := some (58, true) }) (v := (.pointer none)) rfl (by kernel_rfl) (by kernel_rfl) (by kernel_rfl) (fun _ _ _ h => h) (Or.inl ⟨by rfl, fun W' hSw => by clear hSw; go_simp⟩) hH5 ?_
    try simp only [Act.put, List.setIfInBounds_toArray, List.set_cons_zero, List.set_cons_succ]
    refine wpAnyH_ready (rs := [60]) (by kernel_rfl) (by simp) ?_
    refine AllReadyH.cons (o := { dst := some 153, op := Op.call { callee := Callee.value (Operand.func 15), args := #[], argTypes := #[] }, type := 25, pos := "law.go:348", after := #[{ on := 58, ground := Ground.chain }, { on := 58, ground := Ground.guard }], guard := some (58, true) }) rfl (fun K hK => ?_) AllReadyH.nil
    go_simp
    go_at_call 15
    refine (new_any _).mono ?_
    rintro e X6 ⟨rfl, _, hb⟩
    have hF6 : Below V.heap.size V X6 := hF5.trans (hb.mono hF5.size)
    have hH6 := hH5.below hb
    refine hK.out _ _ hH6 (fun _ => ?_)
    clear hK hb
    try simp only [Act.put, List.setIfInBounds_toArray, List.set_cons_zero, List.set_cons_succ]
    refine wpAnyH_ready (rs := [61]) (by kernel_rfl) (by simp) ?_
    refine AllReadyH.cons (o := { dst := some 154, op := Op.call { callee := Callee.value (Operand.func 28), args := #[Operand.tmp 152, Operand.tmp 153], argTypes := #[25, 25] }, type := 4, pos := "law.go:348", after := #[{ on := 59, ground := Ground.data }, { on := 60, ground := Ground.data }, { on := 60, ground := Ground.chain }, { on := 58, ground := Ground.guard }], guard := some (58, true) }) rfl (fun K hK => ?_) AllReadyH.nil
    go_simp
    go_at_call 28
    refine (equal_nil_some _ _).mono ?_
    rintro e X9 ⟨rfl, rfl⟩
    refine hK.out _ _ hH6 (fun _ => ?_)
    clear hK
    try simp only [Act.put, List.setIfInBounds_toArray, List.set_cons_zero, List.set_cons_succ]
    refine wpAnyH_take (i := 62) (oi := { dst := some 155, op := Op.unOp UnOp.not 4 (Operand.tmp 154), type := 4, pos := "law.go:348", after := #[{ on := 61, ground := Ground.data }, { on := 58, ground := Ground.guard }], guard := some (58, true) }) (v := (.bool true)) rfl (by kernel_rfl) (by kernel_rfl) (by kernel_rfl) (fun _ _ _ h => h) (Or.inl ⟨by rfl, fun W' hSw => by clear hSw; go_simp⟩) hH6 ?_
    try simp only [Act.put, List.setIfInBounds_toArray, List.set_cons_zero, List.set_cons_succ]
    refine wpAnyH_take (i := 63) (oi := { dst := some 156, op := Op.pick (Operand.tmp 151) (Operand.tmp 155) (Operand.const (Value.bool false)), type := 4, pos := "law.go:348", after := #[{ on := 58, ground := Ground.data }, { on := 62, ground := Ground.data }], guard := none }) (v := (.bool true)) rfl (by kernel_rfl) (by kernel_rfl) (by kernel_rfl) (fun _ _ _ h => h) (Or.inl ⟨by rfl, fun W' hSw => by clear hSw; go_simp⟩) hH6 ?_
    try simp only [Act.put, List.setIfInBounds_toArray, List.set_cons_zero, List.set_cons_succ]
    refine wpAnyH_take (i := 64) (oi := { dst := some 157, op := Op.move (Operand.tmp 156), type := 4, pos := "law.go:348", after := #[{ on := 63, ground := Ground.data }, { on := 61, ground := Ground.chain }], guard := none }) (v := (.bool true)) rfl (by kernel_rfl) (by kernel_rfl) (by kernel_rfl) (fun _ _ _ h => h) (Or.inl ⟨by rfl, fun W' hSw => by clear hSw; go_simp⟩) hH6 ?_
    try simp only [Act.put, List.setIfInBounds_toArray, List.set_cons_zero, List.set_cons_succ]
    refine wpAnyH_ready (rs := [65]) (by kernel_rfl) (by simp) ?_
    refine AllReadyH.cons (o := { dst := some 158, op := Op.call { callee := Callee.value (Operand.func 15), args := #[], argTypes := #[] }, type := 25, pos := "law.go:348", after := #[{ on := 64, ground := Ground.chain }, { on := 64, ground := Ground.guard }], guard := some (64, true) }) rfl (fun K hK => ?_) AllReadyH.nil
    go_simp
    go_at_call 15
    refine (new_any _).mono ?_
    rintro e X7 ⟨rfl, _, hb⟩
    have hF7 : Below V.heap.size V X7 := hF6.trans (hb.mono hF6.size)
    have hH7 := hH6.below hb
    refine hK.out _ _ hH7 (fun _ => ?_)
    clear hK hb
    try simp only [Act.put, List.setIfInBounds_toArray, List.set_cons_zero, List.set_cons_succ]
    refine wpAnyH_ready (rs := [66]) (by kernel_rfl) (by simp) ?_
    refine AllReadyH.cons (o := { dst := some 159, op := Op.call { callee := Callee.value (Operand.func 28), args := #[Operand.tmp 158, Operand.const (Value.pointer none)], argTypes := #[25, 25] }, type := 4, pos := "law.go:348", after := #[{ on := 65, ground := Ground.data }, { on := 65, ground := Ground.chain }, { on := 64, ground := Ground.guard }], guard := some (64, true) }) rfl (fun K hK => ?_) AllReadyH.nil
    go_simp
    go_at_call 28
    refine (equal_some_nil _ _).mono ?_
    rintro e X9 ⟨rfl, rfl⟩
    refine hK.out _ _ hH7 (fun _ => ?_)
    clear hK
    try simp only [Act.put, List.setIfInBounds_toArray, List.set_cons_zero, List.set_cons_succ]
    refine wpAnyH_take (i := 67) (oi := { dst := some 160, op := Op.unOp UnOp.not 4 (Operand.tmp 159), type := 4, pos := "law.go:348", after := #[{ on := 66, ground := Ground.data }, { on := 64, ground := Ground.guard }], guard := some (64, true) }) (v := (.bool true)) rfl (by kernel_rfl) (by kernel_rfl) (by kernel_rfl) (fun _ _ _ h => h) (Or.inl ⟨by rfl, fun W' hSw => by clear hSw; go_simp⟩) hH7 ?_
    try simp only [Act.put, List.setIfInBounds_toArray, List.set_cons_zero, List.set_cons_succ]
    refine wpAnyH_take (i := 68) (oi := { dst := some 161, op := Op.pick (Operand.tmp 157) (Operand.tmp 160) (Operand.const (Value.bool false)), type := 4, pos := "law.go:348", after := #[{ on := 64, ground := Ground.data }, { on := 67, ground := Ground.data }], guard := none }) (v := (.bool true)) rfl (by kernel_rfl) (by kernel_rfl) (by kernel_rfl) (fun _ _ _ h => h) (Or.inl ⟨by rfl, fun W' hSw => by clear hSw; go_simp⟩) hH7 ?_
    try simp only [Act.put, List.setIfInBounds_toArray, List.set_cons_zero, List.set_cons_succ]
    refine wpAnyH_ready (rs := [69]) (by kernel_rfl) (by simp) ?_
    refine AllReadyH.cons (o := { dst := none, op := Op.store 4 (Operand.tmp 2) (Operand.tmp 161), type := 0, pos := "law.go:348", after := ({ on := 68, ground := Ground.data } :: { on := 66, ground := Ground.chain } :: { on := 0, ground := Ground.phase } :: { on := 1, ground := Ground.phase } :: { on := 2, ground := Ground.phase } :: { on := 3, ground := Ground.phase } :: { on := 4, ground := Ground.phase } :: { on := 5, ground := Ground.phase } :: { on := 6, ground := Ground.phase } :: { on := 7, ground := Ground.phase } :: { on := 8, ground := Ground.phase } :: { on := 9, ground := Ground.phase } :: { on := 10, ground := Ground.phase } :: { on := 11, ground := Ground.phase } :: { on := 12, ground := Ground.phase } :: { on := 13, ground := Ground.phase } :: { on := 14, ground := Ground.phase } :: { on := 15, ground := Ground.phase } :: { on := 16, ground := Ground.phase } :: { on := 17, ground := Ground.phase } :: { on := 18, ground := Ground.phase } :: { on := 19, ground := Ground.phase } :: { on := 20, ground := Ground.phase } :: { on := 21, ground := Ground.phase } :: { on := 22, ground := Ground.phase } :: { on := 23, ground := Ground.phase } :: { on := 24, ground := Ground.phase } :: { on := 25, ground := Ground.phase } :: { on := 26, ground := Ground.phase } :: { on := 27, ground := Ground.phase } :: { on := 28, ground := Ground.phase } :: { on := 29, ground := Ground.phase } :: { on := 30, ground := Ground.phase } :: { on := 31, ground := Ground.phase } :: { on := 32, ground := Ground.phase } :: { on := 33, ground := Ground.phase } :: { on := 34, ground := Ground.phase } :: { on := 35, ground := Ground.phase } :: { on := 36, ground := Ground.phase } :: { on := 37, ground := Ground.phase } :: { on := 38, ground := Ground.phase } :: { on := 39, ground := Ground.phase } :: { on := 40, ground := Ground.phase } :: { on := 41, ground := Ground.phase } :: { on := 42, ground := Ground.phase } :: { on := 43, ground := Ground.phase } :: { on := 44, ground := Ground.phase } :: { on := 45, ground := Ground.phase } :: { on := 46, ground := Ground.phase } :: { on := 47, ground := Ground.phase } :: { on := 48, ground := Ground.phase } :: { on := 49, ground := Ground.phase } :: { on := 50, ground := Ground.phase } :: { on := 51, ground := Ground.phase } :: { on := 52, ground := Ground.phase } :: { on := 53, ground := Ground.phase } :: { on := 54, ground := Ground.phase } :: { on := 55, ground := Ground.phase } :: { on := 56, ground := Ground.phase } :: { on := 57, ground := Ground.phase } :: { on := 58, ground := Ground.phase } :: { on := 59, ground := Ground.phase } :: { on := 60, ground := Ground.phase } :: { on := 61, ground := Ground.phase } :: { on := 62, ground := Ground.phase } :: { on := 63, ground := Ground.phase } :: { on := 64, ground := Ground.phase } :: { on := 65, ground := Ground.phase } :: { on := 66, ground := Ground.phase } :: { on := 67, ground := Ground.phase } :: { on := 68, ground := Ground.phase } :: []).toArray, guard := none }) rfl (fun K hK => ?_) AllReadyH.nil
    have hNk := hN12.out.below hF7
    have q1 := cells_at (cs := [.bool false]) hNk.rs 0 _ rfl
    have q2 : X7.frozen? ⟨w.heap.size + 1, 0, none⟩ = false := frozen_of_row X7 _ 0 _ _ hNk.rs
    have hNk' := Lib.hid hNk
    have hFk' := Lib.hid hF7
    clear hNk
    go_simp
    have hHk := hH7.setCellM (j := 0) (v := .bool true)
    refine hK.out _ _ hHk (fun _ => ?_)
    clear hK
    try simp only [Act.put, List.setIfInBounds_toArray, List.set_cons_zero, List.set_cons_succ]
    refine wpAnyH_done (by kernel_rfl) ?_ _
    refine NoPanic.normal ?_
    obtain ⟨Y, hY⟩ : ∃ Y, Y = X7.setCell ⟨w.heap.size + 1, 0, none⟩ (.bool true) := ⟨_, rfl⟩
    have hYb : Below w.heap.size w Y := by rw [hY]; exact hNk'.out.bel.setCell (p := ⟨w.heap.size + 1, 0, none⟩) (Nat.le_succ _) _
    have hYr : Y.heap[w.heap.size + 1]? = some (.cells #[.bool true] 4 (0, 0)) := by rw [hY]; exact heap_setCell_same X7 _ 0 _ _ _ hNk'.out.rs
    have hYK : Y.heap[D]? = some (.deferred (some [])) := by
      rw [hY]
      have h1 := (hB12.out.block D (Array.getElem?_eq_some_iff.1 hK4.out).1).trans hK4.out
      exact (heap_setCell_other X7 _ _ _ (by have := hD'.out; show D ≠ w.heap.size + 1; omega)).trans ((hFk'.out.block D (Array.getElem?_eq_some_iff.1 h1).1).trans h1)
    rw [← hY]
    have hYb' := Lib.hid hYb
    have hYr' := Lib.hid hYr
    have hYK' := Lib.hid hYK
    clear hYb hYr hYK hY hHk q1 q2 hH0 hF0 hH1 hF1 hH2 hF2 hH3 hF3 hH4 hF4 hH5 hF5 hH6 hF6 hH7 hF7
    go_wp2_with fail
    rw [hQ'.out]
    refine ⟨by simp, .inl ⟨_, _, rfl, run_takeDeferred hYK'.out, ?_⟩⟩
    refine ⟨.bool true, ?_, rfl, hYb'.out.grown (put_grown _ _ _) hYb'.out.size (fun j e => by cases e; have := hD'.out; omega)⟩
    refine res_bool Tryz.results8 _ _ (w.heap.size + 1) true rfl ?_
    rw [World.cell?_of_block ((put_grown _ D _).block _ (Array.getElem?_eq_some_iff.1 hYr'.out).1 (show some (w.heap.size + 1) ≠ some D from fun e => by have h1 := Option.some.inj e; have := hD'.out; omega))]
    exact cells_at (cs := [.bool true]) hYr'.out 0 _ rfl
end Go.Proofs.YtnniijnfkbkdcaaGreatDoor
