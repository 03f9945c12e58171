/- Lines of the overview in memory; the arguments opened. -/
import Derived.Test.YtnniijnfkbkdcaaGreatDoorG2
import Derived.OpenShut
import Derived.Deep.Slices
import Derived.Deep.Strs
import Derived.Deep.MidRow
namespace Go.Proofs.YtnniijnfkbkdcaaGreatDoor
open Go Go.RowKit Go.Proofs Go.ChangeShapes Go.WideShapes Go.Deep
set_option linter.unusedSimpArgs false
set_option linter.unusedVariables false
variable {H : Type} {enc : TypeId × Value → H} {W : World}

def I64 (x : Int) : Prop := (Lit.int .i64 x).wf = true
def byteVals (l : List UInt8) : List Value := l.map fun b => .int .u8 (b.toNat : Int)
/-- a slice of identities in memory -/
def SliceId (w : World) (v : Value) (ids : List (List UInt8)) : Prop :=
  (∃ A c, v = .slice A 0 c ∧ ids = []) ∨ ∃ b o c, v = .slice (some ⟨b, o, none⟩) ids.length c ∧ (c ≤ 9223372036854775807 ∧ ids.length ≤ 9223372036854775807) ∧ b < w.heap.size ∧
    ∀ k id, ids[k]? = some id → id.length = 32 ∧ w.rangeAt b (o + k * 32) (byteVals id)
theorem SliceId.below {w w' : World} {v : Value} {ids : List (List UInt8)} (h : SliceId w v ids) (hb : Below w.heap.size w w') : SliceId w' v ids := by
  rcases h with h | ⟨b, o, c, rfl, g2, g3, g4⟩
  · exact Or.inl h
  · refine Or.inr ⟨b, o, c, rfl, g2, Nat.lt_of_lt_of_le g3 hb.size, fun k id hk => ?_⟩
    obtain ⟨h1, h2⟩ := g4 k id hk
    exact ⟨h1, fun j u hj => (hb.cell (p := ⟨b, _, none⟩) g3).trans (h2 j u hj)⟩
theorem SliceId.form {w : World} {v : Value} {ids : List (List UInt8)} (h : SliceId w v ids) :
    ∃ A c, v = .slice A ids.length c ∧ ids.length ≤ 9223372036854775807 ∧ ∀ k id, ids[k]? = some id → ∃ b o, A = some ⟨b, o, none⟩ ∧ b < w.heap.size ∧ id.length = 32 ∧ w.rangeAt b (o + k * 32) (byteVals id) := by
  rcases h with ⟨A, c, rfl, rfl⟩ | ⟨b, o, c, rfl, g2, g3, g4⟩
  · exact ⟨_, _, rfl, by simp, fun k e hk => by simp at hk⟩
  · exact ⟨_, _, rfl, g2.2, fun k id hk => by obtain ⟨h1, h2⟩ := g4 k id hk; exact ⟨b, o, rfl, g3, h1, h2⟩⟩
/-- what a slice of identities holds, as a row of cells -/
theorem SliceId.row {w : World} {v : Value} {ids : List (List UInt8)} (h : SliceId w v ids) (hnil : ∀ n c, v = .slice none n c → v = .slice none 0 0) :
    ∃ A c, v = .slice A ids.length c ∧ (A = none → v = .slice none 0 0) ∧ (∀ id ∈ ids, id.length = 32) ∧ ∀ j y, (ids.flatMap byteVals)[j]? = some y → ∃ b o, A = some ⟨b, o, none⟩ ∧ w.cell? ⟨b, o + j, none⟩ = some y := by
  rcases h with ⟨A, c, rfl, rfl⟩ | ⟨b, o, c, rfl, g2, g3, g4⟩
  · exact ⟨A, c, rfl, fun hA => by subst hA; exact hnil _ _ rfl, fun id h => by simp at h, fun j y hj => by simp at hj⟩
  · have h32 : ∀ id ∈ ids, id.length = 32 := fun id hid => by
      obtain ⟨k, hk⟩ := List.getElem?_of_mem hid
      exact (g4 k id hk).1
    refine ⟨_, _, rfl, (fun h => by cases h), h32, fun j y hj => ⟨b, o, rfl, ?_⟩⟩
    have key : ∀ (l : List (List UInt8)), (∀ id ∈ l, id.length = 32) → ∀ j y, (l.flatMap byteVals)[j]? = some y → ∃ id, l[j / 32]? = some id ∧ (byteVals id)[j % 32]? = some y := by
      intro l
      induction l with
      | nil => intro _ j y hj; simp at hj
      | cons a r ih =>
        intro hl j y hj
        have ha : (byteVals a).length = 32 := by simpa [byteVals] using hl a (by simp)
        rw [List.flatMap_cons] at hj
        rcases Nat.lt_or_ge j 32 with hlt | hge
        · rw [List.getElem?_append_left (by omega)] at hj
          refine ⟨a, ?_, ?_⟩
          · rw [show j / 32 = 0 by omega]; rfl
          · rw [Nat.mod_eq_of_lt hlt]; exact hj
        · rw [List.getElem?_append_right (by omega), ha] at hj
          obtain ⟨id, h1, h2⟩ := ih (fun x hx => hl x (by simp [hx])) _ y hj
          refine ⟨id, ?_, ?_⟩
          · rw [show j / 32 = (j - 32) / 32 + 1 by omega, List.getElem?_cons_succ]; exact h1
          · rw [show j % 32 = (j - 32) % 32 by omega]; exact h2
    obtain ⟨id, h1, h2⟩ := key ids h32 j y hj
    have := (g4 _ id h1).2 _ y h2
    rwa [show o + j / 32 * 32 + j % 32 = o + j by omega] at this

structure RLine where
  group : ByteArray
  num : Int
  id : List UInt8
  name : ByteArray
  date : Int
  subj : ByteArray
  refs : List (List UInt8)
  bytes : Int
def RLineAt (w : World) (l : RLine) (cs : List Value) : Prop :=
  ∃ i1 i2 i3 i4 i5 i6 i7 i8 i9 i10 i11 i12 i13 i14 i15 i16 i17 i18 i19 i20 i21 i22 i23 i24 i25 i26 i27 i28 i29 i30 i31 i32 rv, cs = .string l.group :: .int .i64 l.num :: i1 :: i2 :: i3 :: i4 :: i5 :: i6 :: i7 :: i8 :: i9 :: i10 :: i11 :: i12 :: i13 :: i14 :: i15 :: i16 :: i17 :: i18 :: i19 :: i20 :: i21 :: i22 :: i23 :: i24 :: i25 :: i26 :: i27 :: i28 :: i29 :: i30 :: i31 :: i32 :: .string l.name :: .int .i64 l.date :: .string l.subj :: rv :: .int .i64 l.bytes :: [] ∧ i1 :: i2 :: i3 :: i4 :: i5 :: i6 :: i7 :: i8 :: i9 :: i10 :: i11 :: i12 :: i13 :: i14 :: i15 :: i16 :: i17 :: i18 :: i19 :: i20 :: i21 :: i22 :: i23 :: i24 :: i25 :: i26 :: i27 :: i28 :: i29 :: i30 :: i31 :: i32 :: [] = byteVals l.id ∧ SliceId w rv l.refs ∧ (∀ n c, rv = .slice none n c → rv = .slice none 0 0) ∧
    I64 l.num ∧ I64 l.date ∧ I64 l.bytes ∧ l.group.size ≤ 9223372036854775807 ∧ l.name.size ≤ 9223372036854775807 ∧ l.subj.size ≤ 9223372036854775807
theorem bytes_of : ∀ l : List Value, (∀ c ∈ l, ∃ n : Int, c = .int .u8 n ∧ 0 ≤ n ∧ n ≤ 255) → ∃ au, l = byteVals au
  | [], _ => ⟨[], rfl⟩
  | c :: r, h => by
    obtain ⟨au, rfl⟩ := bytes_of r (fun x hx => h x (by simp [hx]))
    obtain ⟨n, rfl, h0, h1⟩ := h c (by simp)
    refine ⟨UInt8.ofNat n.toNat :: au, ?_⟩
    show _ = Value.int .u8 ((UInt8.ofNat n.toNat).toNat : Int) :: byteVals au
    rw [UInt8.toNat_ofNat_of_lt' (by show n.toNat < 256; omega), Int.toNat_of_nonneg h0]
theorem Tryz.cells1 : Tryz.prog.cellsOf 3 = 1 := by kernel_rfl
theorem Tryz.cells1s : Tryz.prog.cellsOf 9 = 1 := by kernel_rfl
theorem Tryz.cells1u : Tryz.prog.cellsOf 5 = 1 := by kernel_rfl
theorem Tryz.cells1l : Tryz.prog.cellsOf 32 = 1 := by kernel_rfl
theorem Tryz.cells32 : Tryz.prog.cellsOf 31 = 32 := by kernel_rfl
theorem Tryz.cells39 : Tryz.prog.cellsOf 34 = 39 := by kernel_rfl
theorem id_open {n : Nat} {cs : List Value} {y : DataW H × List MemPlace} (h : DataW.trod enc Tryz.prog W 0 (fun _ => true) true n 31 cs = some y) : ∃ id : List UInt8, cs = byteVals id ∧ id.length = 32 := by
  obtain ⟨ys, m, _, _, hlen, hyl, hy⟩ := DataW.trod_array Tryz.underlying31 h
  rw [Tryz.cells32] at hlen
  have hby : ∀ c ∈ cs, ∃ n : Int, c = .int .u8 n ∧ 0 ≤ n ∧ n ≤ 255 := fun c hc => by
    obtain ⟨i, hi, rfl⟩ := List.getElem_of_mem hc
    have hi' : i < 32 := by omega
    have h5 := (hy i hi').trans (List.getElem?_eq_getElem (by rw [hyl]; exact hi'))
    rw [Tryz.cells1u, Nat.mul_one, List.drop_eq_getElem_cons hi, List.take_succ_cons, List.take_zero] at h5
    obtain ⟨k, hk, _, wk⟩ := DataW.trod_int Tryz.underlying5 h5
    simp only [List.cons.injEq, and_true] at hk
    exact ⟨k, hk, bounds_u8 wk⟩
  obtain ⟨id, hid⟩ := bytes_of _ hby
  refine ⟨id, hid, ?_⟩
  have := congrArg List.length hid
  rw [hlen] at this
  simpa [byteVals] using this.symm
theorem ids_open {n : Nat} {c : Value} {y : DataW H × List MemPlace} (h : DataW.trod enc Tryz.prog W 0 (fun _ => true) true n 32 [c] = some y) : ∃ ids, SliceId W c ids ∧ ∀ n k, c = .slice none n k → c = .slice none 0 0 := by
  rcases open_slice Tryz.underlying32 h with ⟨h0, _⟩ | ⟨ad, len', cap', m, k, D, Pl, hcs, hb, hl, hm, hmm, _, hx⟩
  · simp only [List.cons.injEq, and_true] at h0
    exact ⟨[], .inl ⟨_, _, h0, rfl⟩, fun _ _ _ => h0⟩
  · simp only [List.cons.injEq, and_true] at hcs
    rw [hcs]
    simp only [if_true] at hmm
    subst hmm
    rcases Nat.eq_zero_or_pos len' with rfl | hpos
    · exact ⟨[], .inl ⟨_, _, rfl, rfl⟩, fun _ _ e => by cases e⟩
    · have hev : ∀ i, i < len' → ∃ id : List UInt8, W.cells? 0 (ad.add (i * 32)) 32 = some (byteVals id) ∧ id.length = 32 := fun i hi => by
        obtain ⟨cs, h1, h2⟩ := hx i (by omega)
        rw [Tryz.cells32] at h1
        obtain ⟨id, h3, h4⟩ := id_open h2
        rw [h3] at h1
        exact ⟨id, h1, h4⟩
      obtain ⟨E, hE⟩ := choose_lt hev
      obtain ⟨b, o, spot⟩ := ad
      obtain ⟨h1, h2⟩ := hE 0 hpos
      have hl0 : (byteVals (E 0)).length = 32 := by simpa [byteVals] using h2
      obtain ⟨_, _, hat⟩ := World.cells?_some h1
      have hc0 : W.cell? ((Addr.mk b o spot).add (0 * 32) |>.add 0) = some ((byteVals (E 0))[0]'(by omega)) := (hat 0 (by omega)).trans (List.getElem?_eq_getElem (by omega))
      have hspot : spot = none := by simpa [Addr.add] using World.cell?_spot hc0
      subst hspot
      have hlt : b < W.heap.size := by
        rw [Addr.add_mid, Addr.add_mid] at hc0
        exact World.block_lt_of_cell? W _ hc0
      refine ⟨(List.range len').map E, .inr ⟨b, o, m, by simp, ⟨by unfold maxLen at hm; omega, by unfold maxLen at hm; simp; omega⟩, hlt, fun i e hi => ?_⟩, fun _ _ e => by cases e⟩
      have hi' : i < len' := by have := (List.getElem?_eq_some_iff.1 hi).1; simpa using this
      obtain ⟨h3, h4⟩ := hE i hi'
      obtain rfl : E i = e := by simpa [hi'] using hi
      refine ⟨h4, fun j v hj => ?_⟩
      obtain ⟨_, hcl, hat⟩ := World.cells?_some h3
      have := hat j (by rw [← hcl]; exact (List.getElem?_eq_some_iff.1 hj).1)
      rw [Addr.add_mid, Addr.add_mid] at this
      rw [this]; exact hj
theorem listk {α : Type} (n : Nat) : ∀ {l : List α}, l.length = n + 1 → ∃ a r, l = a :: r ∧ r.length = n
  | a :: r, h => ⟨a, r, rfl, by simpa using h⟩
set_option maxHeartbeats 800000 in
set_option maxRecDepth 10000 in
theorem rline_open {n : Nat} {cs : List Value} {y : DataW H × List MemPlace} (h : DataW.trod enc Tryz.prog W 0 (fun _ => true) true n 34 cs = some y) : ∃ l : RLine, RLineAt W l cs := by
  obtain ⟨xs, n', _, _, hlen, hxl, hf⟩ := DataW.trod_struct Tryz.underlying34 h
  rw [Tryz.cells39] at hlen
  obtain ⟨c0, r0, rfl, hl0⟩ := listk 38 hlen
  obtain ⟨c1, r1, rfl, hl1⟩ := listk 37 hl0
  obtain ⟨c2, r2, rfl, hl2⟩ := listk 36 hl1
  obtain ⟨c3, r3, rfl, hl3⟩ := listk 35 hl2
  obtain ⟨c4, r4, rfl, hl4⟩ := listk 34 hl3
  obtain ⟨c5, r5, rfl, hl5⟩ := listk 33 hl4
  obtain ⟨c6, r6, rfl, hl6⟩ := listk 32 hl5
  obtain ⟨c7, r7, rfl, hl7⟩ := listk 31 hl6
  obtain ⟨c8, r8, rfl, hl8⟩ := listk 30 hl7
  obtain ⟨c9, r9, rfl, hl9⟩ := listk 29 hl8
  obtain ⟨c10, r10, rfl, hl10⟩ := listk 28 hl9
  obtain ⟨c11, r11, rfl, hl11⟩ := listk 27 hl10
  obtain ⟨c12, r12, rfl, hl12⟩ := listk 26 hl11
  obtain ⟨c13, r13, rfl, hl13⟩ := listk 25 hl12
  obtain ⟨c14, r14, rfl, hl14⟩ := listk 24 hl13
  obtain ⟨c15, r15, rfl, hl15⟩ := listk 23 hl14
  obtain ⟨c16, r16, rfl, hl16⟩ := listk 22 hl15
  obtain ⟨c17, r17, rfl, hl17⟩ := listk 21 hl16
  obtain ⟨c18, r18, rfl, hl18⟩ := listk 20 hl17
  obtain ⟨c19, r19, rfl, hl19⟩ := listk 19 hl18
  obtain ⟨c20, r20, rfl, hl20⟩ := listk 18 hl19
  obtain ⟨c21, r21, rfl, hl21⟩ := listk 17 hl20
  obtain ⟨c22, r22, rfl, hl22⟩ := listk 16 hl21
  obtain ⟨c23, r23, rfl, hl23⟩ := listk 15 hl22
  obtain ⟨c24, r24, rfl, hl24⟩ := listk 14 hl23
  obtain ⟨c25, r25, rfl, hl25⟩ := listk 13 hl24
  obtain ⟨c26, r26, rfl, hl26⟩ := listk 12 hl25
  obtain ⟨c27, r27, rfl, hl27⟩ := listk 11 hl26
  obtain ⟨c28, r28, rfl, hl28⟩ := listk 10 hl27
  obtain ⟨c29, r29, rfl, hl29⟩ := listk 9 hl28
  obtain ⟨c30, r30, rfl, hl30⟩ := listk 8 hl29
  obtain ⟨c31, r31, rfl, hl31⟩ := listk 7 hl30
  obtain ⟨c32, r32, rfl, hl32⟩ := listk 6 hl31
  obtain ⟨c33, r33, rfl, hl33⟩ := listk 5 hl32
  obtain ⟨c34, r34, rfl, hl34⟩ := listk 4 hl33
  obtain ⟨c35, r35, rfl, hl35⟩ := listk 3 hl34
  obtain ⟨c36, r36, rfl, hl36⟩ := listk 2 hl35
  obtain ⟨c37, r37, rfl, hl37⟩ := listk 1 hl36
  obtain ⟨c38, r38, rfl, hl38⟩ := listk 0 hl37
  obtain rfl := List.eq_nil_of_length_eq_zero hl38
  have hx : ∀ i, i < 8 → ∃ z, xs[i]? = some z := fun i hi => ⟨_, List.getElem?_eq_getElem (by rw [hxl]; exact hi)⟩
  obtain ⟨z0, hz0⟩ := hx 0 (by omega)
  obtain ⟨z1, hz1⟩ := hx 1 (by omega)
  obtain ⟨z2, hz2⟩ := hx 2 (by omega)
  obtain ⟨z3, hz3⟩ := hx 3 (by omega)
  obtain ⟨z4, hz4⟩ := hx 4 (by omega)
  obtain ⟨z5, hz5⟩ := hx 5 (by omega)
  obtain ⟨z6, hz6⟩ := hx 6 (by omega)
  obtain ⟨z7, hz7⟩ := hx 7 (by omega)
  have h0 : DataW.trod enc Tryz.prog W 0 (fun _ => true) true n' 9 (List.take (Tryz.prog.cellsOf 9) (List.drop 0 (c0 :: c1 :: c2 :: c3 :: c4 :: c5 :: c6 :: c7 :: c8 :: c9 :: c10 :: c11 :: c12 :: c13 :: c14 :: c15 :: c16 :: c17 :: c18 :: c19 :: c20 :: c21 :: c22 :: c23 :: c24 :: c25 :: c26 :: c27 :: c28 :: c29 :: c30 :: c31 :: c32 :: c33 :: c34 :: c35 :: c36 :: c37 :: c38 :: []))) = some z0 := (hf 0 _ rfl).trans hz0
  have h1 : DataW.trod enc Tryz.prog W 0 (fun _ => true) true n' 3 (List.take (Tryz.prog.cellsOf 3) (List.drop 1 (c0 :: c1 :: c2 :: c3 :: c4 :: c5 :: c6 :: c7 :: c8 :: c9 :: c10 :: c11 :: c12 :: c13 :: c14 :: c15 :: c16 :: c17 :: c18 :: c19 :: c20 :: c21 :: c22 :: c23 :: c24 :: c25 :: c26 :: c27 :: c28 :: c29 :: c30 :: c31 :: c32 :: c33 :: c34 :: c35 :: c36 :: c37 :: c38 :: []))) = some z1 := (hf 1 _ rfl).trans hz1
  have h2 : DataW.trod enc Tryz.prog W 0 (fun _ => true) true n' 31 (List.take (Tryz.prog.cellsOf 31) (List.drop 2 (c0 :: c1 :: c2 :: c3 :: c4 :: c5 :: c6 :: c7 :: c8 :: c9 :: c10 :: c11 :: c12 :: c13 :: c14 :: c15 :: c16 :: c17 :: c18 :: c19 :: c20 :: c21 :: c22 :: c23 :: c24 :: c25 :: c26 :: c27 :: c28 :: c29 :: c30 :: c31 :: c32 :: c33 :: c34 :: c35 :: c36 :: c37 :: c38 :: []))) = some z2 := (hf 2 _ rfl).trans hz2
  have h3 : DataW.trod enc Tryz.prog W 0 (fun _ => true) true n' 9 (List.take (Tryz.prog.cellsOf 9) (List.drop 34 (c0 :: c1 :: c2 :: c3 :: c4 :: c5 :: c6 :: c7 :: c8 :: c9 :: c10 :: c11 :: c12 :: c13 :: c14 :: c15 :: c16 :: c17 :: c18 :: c19 :: c20 :: c21 :: c22 :: c23 :: c24 :: c25 :: c26 :: c27 :: c28 :: c29 :: c30 :: c31 :: c32 :: c33 :: c34 :: c35 :: c36 :: c37 :: c38 :: []))) = some z3 := (hf 3 _ rfl).trans hz3
  have h4 : DataW.trod enc Tryz.prog W 0 (fun _ => true) true n' 3 (List.take (Tryz.prog.cellsOf 3) (List.drop 35 (c0 :: c1 :: c2 :: c3 :: c4 :: c5 :: c6 :: c7 :: c8 :: c9 :: c10 :: c11 :: c12 :: c13 :: c14 :: c15 :: c16 :: c17 :: c18 :: c19 :: c20 :: c21 :: c22 :: c23 :: c24 :: c25 :: c26 :: c27 :: c28 :: c29 :: c30 :: c31 :: c32 :: c33 :: c34 :: c35 :: c36 :: c37 :: c38 :: []))) = some z4 := (hf 4 _ rfl).trans hz4
  have h5 : DataW.trod enc Tryz.prog W 0 (fun _ => true) true n' 9 (List.take (Tryz.prog.cellsOf 9) (List.drop 36 (c0 :: c1 :: c2 :: c3 :: c4 :: c5 :: c6 :: c7 :: c8 :: c9 :: c10 :: c11 :: c12 :: c13 :: c14 :: c15 :: c16 :: c17 :: c18 :: c19 :: c20 :: c21 :: c22 :: c23 :: c24 :: c25 :: c26 :: c27 :: c28 :: c29 :: c30 :: c31 :: c32 :: c33 :: c34 :: c35 :: c36 :: c37 :: c38 :: []))) = some z5 := (hf 5 _ rfl).trans hz5
  have h6 : DataW.trod enc Tryz.prog W 0 (fun _ => true) true n' 32 (List.take (Tryz.prog.cellsOf 32) (List.drop 37 (c0 :: c1 :: c2 :: c3 :: c4 :: c5 :: c6 :: c7 :: c8 :: c9 :: c10 :: c11 :: c12 :: c13 :: c14 :: c15 :: c16 :: c17 :: c18 :: c19 :: c20 :: c21 :: c22 :: c23 :: c24 :: c25 :: c26 :: c27 :: c28 :: c29 :: c30 :: c31 :: c32 :: c33 :: c34 :: c35 :: c36 :: c37 :: c38 :: []))) = some z6 := (hf 6 _ rfl).trans hz6
  have h7 : DataW.trod enc Tryz.prog W 0 (fun _ => true) true n' 3 (List.take (Tryz.prog.cellsOf 3) (List.drop 38 (c0 :: c1 :: c2 :: c3 :: c4 :: c5 :: c6 :: c7 :: c8 :: c9 :: c10 :: c11 :: c12 :: c13 :: c14 :: c15 :: c16 :: c17 :: c18 :: c19 :: c20 :: c21 :: c22 :: c23 :: c24 :: c25 :: c26 :: c27 :: c28 :: c29 :: c30 :: c31 :: c32 :: c33 :: c34 :: c35 :: c36 :: c37 :: c38 :: []))) = some z7 := (hf 7 _ rfl).trans hz7
  rw [Tryz.cells1] at h1 h4 h7
  rw [Tryz.cells1s] at h0 h3 h5
  rw [Tryz.cells32] at h2
  rw [Tryz.cells1l] at h6
  have h0' : DataW.trod enc Tryz.prog W 0 (fun _ => true) true n' 9 (c0 :: []) = some z0 := h0
  have h1' : DataW.trod enc Tryz.prog W 0 (fun _ => true) true n' 3 (c1 :: []) = some z1 := h1
  have h2' : DataW.trod enc Tryz.prog W 0 (fun _ => true) true n' 31 (c2 :: c3 :: c4 :: c5 :: c6 :: c7 :: c8 :: c9 :: c10 :: c11 :: c12 :: c13 :: c14 :: c15 :: c16 :: c17 :: c18 :: c19 :: c20 :: c21 :: c22 :: c23 :: c24 :: c25 :: c26 :: c27 :: c28 :: c29 :: c30 :: c31 :: c32 :: c33 :: []) = some z2 := h2
  have h3' : DataW.trod enc Tryz.prog W 0 (fun _ => true) true n' 9 (c34 :: []) = some z3 := h3
  have h4' : DataW.trod enc Tryz.prog W 0 (fun _ => true) true n' 3 (c35 :: []) = some z4 := h4
  have h5' : DataW.trod enc Tryz.prog W 0 (fun _ => true) true n' 9 (c36 :: []) = some z5 := h5
  have h6' : DataW.trod enc Tryz.prog W 0 (fun _ => true) true n' 32 (c37 :: []) = some z6 := h6
  have h7' : DataW.trod enc Tryz.prog W 0 (fun _ => true) true n' 3 (c38 :: []) = some z7 := h7
  obtain ⟨g, e0, _, w0⟩ := DataW.trod_string Tryz.underlying9 h0'
  obtain ⟨num, e1, _, w1⟩ := DataW.trod_int Tryz.underlying3 h1'
  obtain ⟨id, e2, _⟩ := id_open h2'
  obtain ⟨name, e3, _, w3⟩ := DataW.trod_string Tryz.underlying9 h3'
  obtain ⟨date, e4, _, w4⟩ := DataW.trod_int Tryz.underlying3 h4'
  obtain ⟨subj, e5, _, w5⟩ := DataW.trod_string Tryz.underlying9 h5'
  obtain ⟨ids, h6a, h6b⟩ := ids_open h6'
  obtain ⟨b, e7, _, w7⟩ := DataW.trod_int Tryz.underlying3 h7'
  simp only [List.cons.injEq, and_true] at e0 e1 e3 e4 e5 e7
  subst e0 e1 e3 e4 e5 e7
  unfold maxLen at w0 w3 w5
  exact ⟨⟨g, num, id, name, date, subj, ids, b⟩, c2, c3, c4, c5, c6, c7, c8, c9, c10, c11, c12, c13, c14, c15, c16, c17, c18, c19, c20, c21, c22, c23, c24, c25, c26, c27, c28, c29, c30, c31, c32, c33, c37, rfl, e2, h6a, h6b, w1, w4, w7, by show g.size ≤ _; omega, by show name.size ≤ _; omega, by show subj.size ≤ _; omega⟩
end Go.Proofs.YtnniijnfkbkdcaaGreatDoor
