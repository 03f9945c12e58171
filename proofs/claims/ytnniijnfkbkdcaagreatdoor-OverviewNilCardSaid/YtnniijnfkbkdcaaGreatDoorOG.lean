/- Back; Same at two zero lines; zero. -/
import Derived.Test.YtnniijnfkbkdcaaGreatDoorOF
namespace Go.Proofs.YtnniijnfkbkdcaaGreatDoor
open Go Go.RowKit Go.Proofs
set_option linter.unusedSimpArgs false
set_option linter.unusedVariables false

theorem wpList_load_guard {P : Program} {ops : Array Oper} {rest : List Oper} {op : Oper} {a : Act} {w : World} {Q : Exit → Act → World → Prop} (hgd : Region.wanted op (yielded ops a.tmps) = true) (ty : TypeId) (x : Operand) (ho : op.op = .load ty x)
    (b o : Nat) (hx : a.eval x = .pointer (some ⟨b, o, none⟩)) (cs : List Value) (d : TypeDesc) (hc : w.rangeAt b o cs)
    (hu : P.underlying ty = some d) (hd : d.isRow = true) (hi : (P.info? ty).map (·.size) = some cs.length)
    (h : wpList P ops Q rest (a.put op.dst (.agg cs.toArray)) w) : wpList P ops Q (op :: rest) a w :=
  wpList_step fun _ hK => by rw [if_pos hgd]; exact wp_load_mid ty x ho b o hx cs d hc hu hd hi (hK _ _ h)
theorem wpList_build_as {P : Program} {ops : Array Oper} {rest : List Oper} {op : Oper} {a : Act} {w : World} {Q : Exit → Act → World → Prop} (hgd : op.guard = none) (t : TypeId) (parts : Array (Nat × Operand)) (ho : op.op = .build t parts)
    (v : Value) (ps : Array (Nat × Value)) (hp : (parts.map fun (i, x) => (i, a.eval x)) = ps) (hv : (Instr.build t ps).run P w = .ok v w)
    (h : wpList P ops Q rest (a.put op.dst v) w) : wpList P ops Q (op :: rest) a w :=
  wpList_plain hgd fun _ hK => by
    unfold Oper.wp execOp
    simp only [ho, Sem.run_bind, hp, hv, Result.andThen_ok]
    exact hK _ _ h
/-- the zero line of the reference -/
def zrl : List Value := .string ⟨#[]⟩ :: .int .i64 0 :: .int .u8 0 :: .int .u8 0 :: .int .u8 0 :: .int .u8 0 :: .int .u8 0 :: .int .u8 0 :: .int .u8 0 :: .int .u8 0 :: .int .u8 0 :: .int .u8 0 :: .int .u8 0 :: .int .u8 0 :: .int .u8 0 :: .int .u8 0 :: .int .u8 0 :: .int .u8 0 :: .int .u8 0 :: .int .u8 0 :: .int .u8 0 :: .int .u8 0 :: .int .u8 0 :: .int .u8 0 :: .int .u8 0 :: .int .u8 0 :: .int .u8 0 :: .int .u8 0 :: .int .u8 0 :: .int .u8 0 :: .int .u8 0 :: .int .u8 0 :: .int .u8 0 :: .int .u8 0 :: .string ⟨#[]⟩ :: .int .i64 0 :: .string ⟨#[]⟩ :: .slice none 0 0 :: .int .i64 0 :: []
theorem Tryz.build_zrl (w : World) : (Instr.build 34 #[]).run Tryz.prog w = .ok (.agg zrl.toArray) w := by kernel_rfl
theorem Tryz.zero_zrl (w : World) : (zeroValue 34).run Tryz.prog w = .ok (.agg zrl.toArray) w := by kernel_rfl
theorem Tryz.build_back (g : ByteArray) (n : Int) (i1 i2 i3 i4 i5 i6 i7 i8 i9 i10 i11 i12 i13 i14 i15 i16 i17 i18 i19 i20 i21 i22 i23 i24 i25 i26 i27 i28 i29 i30 i31 i32 : Value) (nm : ByteArray) (d : Int) (sj : ByteArray) (A : Option Addr) (r k : Nat) (b : Int) (w : World) : (Instr.build 34 #[(0, .string g), (1, .int .i64 n), (2, .agg (i1 :: i2 :: i3 :: i4 :: i5 :: i6 :: i7 :: i8 :: i9 :: i10 :: i11 :: i12 :: i13 :: i14 :: i15 :: i16 :: i17 :: i18 :: i19 :: i20 :: i21 :: i22 :: i23 :: i24 :: i25 :: i26 :: i27 :: i28 :: i29 :: i30 :: i31 :: i32 :: []).toArray), (3, .string nm), (4, .int .i64 d), (5, .string sj), (6, .slice A r k), (7, .int .i64 b)]).run Tryz.prog w = .ok (.agg (.string g :: .int .i64 n :: i1 :: i2 :: i3 :: i4 :: i5 :: i6 :: i7 :: i8 :: i9 :: i10 :: i11 :: i12 :: i13 :: i14 :: i15 :: i16 :: i17 :: i18 :: i19 :: i20 :: i21 :: i22 :: i23 :: i24 :: i25 :: i26 :: i27 :: i28 :: i29 :: i30 :: i31 :: i32 :: .string nm :: .int .i64 d :: .string sj :: .slice A r k :: .int .i64 b :: []).toArray) w := by kernel_rfl
theorem Tryz.neq_z32 (w : World) : (binOp .neq 31 (.agg (.int .u8 0 :: .int .u8 0 :: .int .u8 0 :: .int .u8 0 :: .int .u8 0 :: .int .u8 0 :: .int .u8 0 :: .int .u8 0 :: .int .u8 0 :: .int .u8 0 :: .int .u8 0 :: .int .u8 0 :: .int .u8 0 :: .int .u8 0 :: .int .u8 0 :: .int .u8 0 :: .int .u8 0 :: .int .u8 0 :: .int .u8 0 :: .int .u8 0 :: .int .u8 0 :: .int .u8 0 :: .int .u8 0 :: .int .u8 0 :: .int .u8 0 :: .int .u8 0 :: .int .u8 0 :: .int .u8 0 :: .int .u8 0 :: .int .u8 0 :: .int .u8 0 :: .int .u8 0 :: []).toArray) (.agg (.int .u8 0 :: .int .u8 0 :: .int .u8 0 :: .int .u8 0 :: .int .u8 0 :: .int .u8 0 :: .int .u8 0 :: .int .u8 0 :: .int .u8 0 :: .int .u8 0 :: .int .u8 0 :: .int .u8 0 :: .int .u8 0 :: .int .u8 0 :: .int .u8 0 :: .int .u8 0 :: .int .u8 0 :: .int .u8 0 :: .int .u8 0 :: .int .u8 0 :: .int .u8 0 :: .int .u8 0 :: .int .u8 0 :: .int .u8 0 :: .int .u8 0 :: .int .u8 0 :: .int .u8 0 :: .int .u8 0 :: .int .u8 0 :: .int .u8 0 :: .int .u8 0 :: .int .u8 0 :: []).toArray)).run Tryz.prog w = .ok (.bool false) w := by kernel_rfl
theorem rline_one (g : ByteArray) (n : Int) (i1 i2 i3 i4 i5 i6 i7 i8 i9 i10 i11 i12 i13 i14 i15 i16 i17 i18 i19 i20 i21 i22 i23 i24 i25 i26 i27 i28 i29 i30 i31 i32 : Value) (nm : ByteArray) (d : Int) (sj : ByteArray) (rv : Value) (b : Int) (hone : ∀ u ∈ i1 :: i2 :: i3 :: i4 :: i5 :: i6 :: i7 :: i8 :: i9 :: i10 :: i11 :: i12 :: i13 :: i14 :: i15 :: i16 :: i17 :: i18 :: i19 :: i20 :: i21 :: i22 :: i23 :: i24 :: i25 :: i26 :: i27 :: i28 :: i29 :: i30 :: i31 :: i32 :: [], u.oneCell' = true) (hrv : rv.oneCell' = true) : ∀ u ∈ (.string g :: .int .i64 n :: i1 :: i2 :: i3 :: i4 :: i5 :: i6 :: i7 :: i8 :: i9 :: i10 :: i11 :: i12 :: i13 :: i14 :: i15 :: i16 :: i17 :: i18 :: i19 :: i20 :: i21 :: i22 :: i23 :: i24 :: i25 :: i26 :: i27 :: i28 :: i29 :: i30 :: i31 :: i32 :: .string nm :: .int .i64 d :: .string sj :: rv :: .int .i64 b :: []), u.oneCell' = true := fun u hu => by
  rcases List.mem_cons.1 hu with rfl | hu
  · rfl
  · exact line_one n i1 i2 i3 i4 i5 i6 i7 i8 i9 i10 i11 i12 i13 i14 i15 i16 i17 i18 i19 i20 i21 i22 i23 i24 i25 i26 i27 i28 i29 i30 i31 i32 nm d sj rv b hone hrv u hu
set_option maxHeartbeats 3200000 in
set_option maxRecDepth 100000 in
theorem back_any (g : ByteArray) (n : Int) (i1 i2 i3 i4 i5 i6 i7 i8 i9 i10 i11 i12 i13 i14 i15 i16 i17 i18 i19 i20 i21 i22 i23 i24 i25 i26 i27 i28 i29 i30 i31 i32 : Value) (nm : ByteArray) (d : Int) (sj : ByteArray) (A : Option Addr) (r k : Nat) (b : Int) (w : World) (rv : Value) (hrv : rv = .slice A r k) (hone : ∀ u ∈ i1 :: i2 :: i3 :: i4 :: i5 :: i6 :: i7 :: i8 :: i9 :: i10 :: i11 :: i12 :: i13 :: i14 :: i15 :: i16 :: i17 :: i18 :: i19 :: i20 :: i21 :: i22 :: i23 :: i24 :: i25 :: i26 :: i27 :: i28 :: i29 :: i30 :: i31 :: i32 :: [], u.oneCell' = true) :
    Calls Tryz.prog 22 #[.string g, .agg ((.int .i64 n :: i1 :: i2 :: i3 :: i4 :: i5 :: i6 :: i7 :: i8 :: i9 :: i10 :: i11 :: i12 :: i13 :: i14 :: i15 :: i16 :: i17 :: i18 :: i19 :: i20 :: i21 :: i22 :: i23 :: i24 :: i25 :: i26 :: i27 :: i28 :: i29 :: i30 :: i31 :: i32 :: .string nm :: .int .i64 d :: .string sj :: rv :: .int .i64 b :: [])).toArray] w fun e w' => e = .returned (.agg ((.string g :: .int .i64 n :: i1 :: i2 :: i3 :: i4 :: i5 :: i6 :: i7 :: i8 :: i9 :: i10 :: i11 :: i12 :: i13 :: i14 :: i15 :: i16 :: i17 :: i18 :: i19 :: i20 :: i21 :: i22 :: i23 :: i24 :: i25 :: i26 :: i27 :: i28 :: i29 :: i30 :: i31 :: i32 :: .string nm :: .int .i64 d :: .string sj :: rv :: .int .i64 b :: [])).toArray) ∧ Below w.heap.size w w' := by
  subst hrv
  obtain ⟨cs, hcs⟩ : ∃ cs : List Value, cs = (.string g :: .int .i64 n :: i1 :: i2 :: i3 :: i4 :: i5 :: i6 :: i7 :: i8 :: i9 :: i10 :: i11 :: i12 :: i13 :: i14 :: i15 :: i16 :: i17 :: i18 :: i19 :: i20 :: i21 :: i22 :: i23 :: i24 :: i25 :: i26 :: i27 :: i28 :: i29 :: i30 :: i31 :: i32 :: .string nm :: .int .i64 d :: .string sj :: .slice A r k :: .int .i64 b :: [] : List Value) := ⟨_, rfl⟩
  have hbb : ∀ w, (Instr.build 34 #[(0, .string g), (1, .int .i64 n), (2, .agg (i1 :: i2 :: i3 :: i4 :: i5 :: i6 :: i7 :: i8 :: i9 :: i10 :: i11 :: i12 :: i13 :: i14 :: i15 :: i16 :: i17 :: i18 :: i19 :: i20 :: i21 :: i22 :: i23 :: i24 :: i25 :: i26 :: i27 :: i28 :: i29 :: i30 :: i31 :: i32 :: []).toArray), (3, .string nm), (4, .int .i64 d), (5, .string sj), (6, .slice A r k), (7, .int .i64 b)]).run Tryz.prog w = .ok (.agg cs.toArray) w := by rw [hcs]; exact Tryz.build_back g n i1 i2 i3 i4 i5 i6 i7 i8 i9 i10 i11 i12 i13 i14 i15 i16 i17 i18 i19 i20 i21 i22 i23 i24 i25 i26 i27 i28 i29 i30 i31 i32 nm d sj A r k b
  have hinf : (Tryz.prog.info? 34).map (·.size) = some cs.toArray.size := by rw [hcs]; kernel_rfl
  have hsz : zrl.toArray.size = cs.toArray.size := by rw [hcs]; rfl
  obtain ⟨W, hW⟩ : ∃ W, W = (w.alloc (.cells (.int .i64 n :: i1 :: i2 :: i3 :: i4 :: i5 :: i6 :: i7 :: i8 :: i9 :: i10 :: i11 :: i12 :: i13 :: i14 :: i15 :: i16 :: i17 :: i18 :: i19 :: i20 :: i21 :: i22 :: i23 :: i24 :: i25 :: i26 :: i27 :: i28 :: i29 :: i30 :: i31 :: i32 :: .string nm :: .int .i64 d :: .string sj :: .slice A r k :: .int .i64 b :: []).toArray 44)).alloc (.cells zrl.toArray 34) := ⟨_, rfl⟩
  have hb : Below w.heap.size w W := by rw [hW]; exact ((Below.refl _ w).alloc (Nat.le_refl _) _).alloc (by simp) _
  have h0 : W.heap[w.heap.size]? = some (.cells (.int .i64 n :: i1 :: i2 :: i3 :: i4 :: i5 :: i6 :: i7 :: i8 :: i9 :: i10 :: i11 :: i12 :: i13 :: i14 :: i15 :: i16 :: i17 :: i18 :: i19 :: i20 :: i21 :: i22 :: i23 :: i24 :: i25 :: i26 :: i27 :: i28 :: i29 :: i30 :: i31 :: i32 :: .string nm :: .int .i64 d :: .string sj :: .slice A r k :: .int .i64 b :: []).toArray 44 (0, 0)) := by rw [hW]; exact heap_alloc2_old _ _ _
  have h1 : W.heap[w.heap.size + 1]? = some (.cells zrl.toArray 34 (0, 0)) := by rw [hW]; exact heap_alloc2_new _ _ _
  have hidr : W.rangeAt w.heap.size 1 (i1 :: i2 :: i3 :: i4 :: i5 :: i6 :: i7 :: i8 :: i9 :: i10 :: i11 :: i12 :: i13 :: i14 :: i15 :: i16 :: i17 :: i18 :: i19 :: i20 :: i21 :: i22 :: i23 :: i24 :: i25 :: i26 :: i27 :: i28 :: i29 :: i30 :: i31 :: i32 :: []) := fun j v hj => by
    refine cells_at h0 (1 + j) v ?_
    have hj32 : j < 32 := (List.getElem?_eq_some_iff.1 hj).1
    rw [Nat.add_comm, List.getElem?_cons_succ]
    exact (List.getElem?_append_left (l₂ := .string nm :: .int .i64 d :: .string sj :: .slice A r k :: .int .i64 b :: []) hj32).trans hj
  have q0 := cells_at h0 0 _ rfl
  have q1 := cells_at h0 33 _ rfl
  have q2 := cells_at h0 34 _ rfl
  have q3 := cells_at h0 35 _ rfl
  have q4 := cells_at h0 36 _ rfl
  have q5 := cells_at h0 37 _ rfl
  have hall := all_oneCell_toArray (rline_one g n i1 i2 i3 i4 i5 i6 i7 i8 i9 i10 i11 i12 i13 i14 i15 i16 i17 i18 i19 i20 i21 i22 i23 i24 i25 i26 i27 i28 i29 i30 i31 i32 nm d sj (.slice A r k) b hone rfl)
  rw [← hcs] at hall ⊢
  have hinf' := Lib.hid hinf
  have hsz' := Lib.hid hsz
  clear hinf hsz hcs
  have hW' := Lib.hid hW
  have hb' := Lib.hid hb
  have h1' := Lib.hid h1
  have hidr' := Lib.hid hidr
  have hall' := Lib.hid hall
  clear hb h0 h1 hidr hall hone
  go_enter Tryz.func22, Tryz.ntmps22
  have hzz := Tryz.zero_zrl
  clear hW
  go_wp2_with (first
    | (rw [← hW'.out])
    | (refine wpList_load_mid (op := ⟨some 9, .load 31 (.tmp 8), _, _, _, _⟩) rfl 31 _ rfl w.heap.size 1 rfl _ _ hidr'.out Tryz.underlying31 rfl rfl ?_; (try simp only [Act.put, List.setIfInBounds_toArray, List.set_cons_zero, List.set_cons_succ]); refine wpList_plain rfl fun _ hK => ?_; go_simp; refine hK _ _ ?_; clear hK; (try simp only [Act.put, List.setIfInBounds_toArray, List.set_cons_zero, List.set_cons_succ]); refine wpList_plain rfl fun _ hK => ?_; go_simp; refine hK _ _ ?_; clear hK; (try simp only [Act.put, List.setIfInBounds_toArray, List.set_cons_zero, List.set_cons_succ]); refine wpList_plain rfl fun _ hK => ?_; go_simp; refine hK _ _ ?_; clear hK; (try simp only [Act.put, List.setIfInBounds_toArray, List.set_cons_zero, List.set_cons_succ]); refine wpList_plain rfl fun _ hK => ?_; go_simp; refine hK _ _ ?_; clear hK; (try simp only [Act.put, List.setIfInBounds_toArray, List.set_cons_zero, List.set_cons_succ]); refine wpList_plain rfl fun _ hK => ?_; go_simp; refine hK _ _ ?_; clear hK; (try simp only [Act.put, List.setIfInBounds_toArray, List.set_cons_zero, List.set_cons_succ]); refine wpList_plain rfl fun _ hK => ?_; go_simp; refine hK _ _ ?_; clear hK; (try simp only [Act.put, List.setIfInBounds_toArray, List.set_cons_zero, List.set_cons_succ]); refine wpList_plain rfl fun _ hK => ?_; go_simp; refine hK _ _ ?_; clear hK; (try simp only [Act.put, List.setIfInBounds_toArray, List.set_cons_zero, List.set_cons_succ]); refine wpList_plain rfl fun _ hK => ?_; go_simp; refine hK _ _ ?_; clear hK; (try simp only [Act.put, List.setIfInBounds_toArray, List.set_cons_zero, List.set_cons_succ]); refine wpList_plain rfl fun _ hK => ?_; go_simp; refine hK _ _ ?_; clear hK; (try simp only [Act.put, List.setIfInBounds_toArray, List.set_cons_zero, List.set_cons_succ]); refine wpList_plain rfl fun _ hK => ?_; go_simp; refine hK _ _ ?_; clear hK; (try simp only [Act.put, List.setIfInBounds_toArray, List.set_cons_zero, List.set_cons_succ]); refine wpList_build_as (op := ⟨some 20, _, _, _, _, _⟩) rfl 34 _ rfl _ #[(0, .string g), (1, .int .i64 n), (2, .agg (i1 :: i2 :: i3 :: i4 :: i5 :: i6 :: i7 :: i8 :: i9 :: i10 :: i11 :: i12 :: i13 :: i14 :: i15 :: i16 :: i17 :: i18 :: i19 :: i20 :: i21 :: i22 :: i23 :: i24 :: i25 :: i26 :: i27 :: i28 :: i29 :: i30 :: i31 :: i32 :: []).toArray), (3, .string nm), (4, .int .i64 d), (5, .string sj), (6, .slice A r k), (7, .int .i64 b)] (by first | rfl | go_simp) (hbb _) ?_; (try simp only [Act.put, List.setIfInBounds_toArray, List.set_cons_zero, List.set_cons_succ]); refine wpList_store_row rfl 34 _ _ rfl (w.heap.size + 1) _ rfl rfl 34 zrl.toArray h1'.out hinf'.out hsz'.out hall'.out ?_))
  have hr := setRow_heap _ _ _ cs.toArray _ _ h1'.out
  exact bodyPost_ret (v := .agg cs.toArray) (results_cell_row Tryz.results22 _ _ (w.heap.size + 1) _ _ _ _ rfl hr Tryz.underlying34 rfl hinf'.out) rfl ⟨rfl, below_setRow hb'.out (by omega)⟩
end Go.Proofs.YtnniijnfkbkdcaaGreatDoor
