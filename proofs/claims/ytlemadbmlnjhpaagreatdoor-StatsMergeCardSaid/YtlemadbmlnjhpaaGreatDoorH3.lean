/- StatsAdd: the drawn statement that appends the event and builds. -/
/- StatsAdd: the walk of the statement. -/
import Derived.Test.YtlemadbmlnjhpaaGreatDoorH2
import Derived.Test.YtlemadbmlnjhpaaGreatDoorG7
import Derived.ChangeKeysEq
namespace Go.Proofs.YtlemadbmlnjhpaaGreatDoor
open Go Go.RowKit Go.Proofs
set_option linter.unusedSimpArgs false
set_option linter.unusedVariables false

theorem okEvs_err {es : List Ev} : ∀ e ∈ okEvs es, e.err = 0 := fun e he => by
  have := (List.mem_filter.1 he).2
  simpa using this
theorem okEvs_len (es : List Ev) : (okEvs es).length ≤ es.length := List.length_filter_le _ _
theorem Tryz.equal_cnt (x y : Int) (w : World) : (Op.equal 34 (.agg #[.int .i64 x, .int .i64 y]) (.agg #[.int .i64 x, .int .i64 y])).run Tryz.prog w = .ok true w := by
  simp [Op.equal, Op.maxDepth, go_sem]
theorem SliceEv.one {w : World} {cs : List Value} {ev : Ev} {c b : Nat} (h : EvAt w ev cs) (hb : w.heap[b]? = some (.cells cs.toArray 27 (0, 0))) (hc : c ≤ 9223372036854775807) : SliceEv w (.slice (some ⟨b, 0, none⟩) 1 c) [ev] := by
  refine .inr ⟨b, 0, c, rfl, ⟨hc, by simp⟩, (Array.getElem?_eq_some_iff.1 hb).1, fun k e hk => ?_⟩
  obtain ⟨rfl, rfl⟩ : k = 0 ∧ e = ev := by
    rcases k with _ | k
    · simp at hk; exact ⟨rfl, hk.symm⟩
    · simp at hk
  refine ⟨cs, fun j v hj => ?_, h⟩
  rw [cell_of_row _ _ _ _ _ _ hb]
  simpa using hj

theorem SliceEv.src {w : World} {v : Value} {es : List Ev} (h : SliceEv w v es) (hnil : ∀ n c, v = .slice none n c → v = .slice none 0 0) :
    ∃ ys, SrcV w 20 v es.length ys ∧ (∀ u ∈ ys, u.oneCell' = true) ∧ ∀ k e, es[k]? = some e → ∃ cs, (∀ j u, cs[j]? = some u → ys[k * 20 + j]? = some u) ∧ EvAt w e cs := by
  rcases h with ⟨A, c, rfl, rfl⟩ | ⟨bb, o, c, rfl, g2, g3, g4⟩
  · exact ⟨[], ⟨rfl, A, c, rfl, fun hA => by subst hA; exact hnil _ _ rfl, fun j y hj => by simp at hj⟩, fun u hu => by simp at hu, fun k e hk => by simp at hk⟩
  · have hcell : ∀ t, t < es.length * 20 → ∃ u, w.cell? ⟨bb, o + t, none⟩ = some u ∧ u.oneCell' = true := fun t ht => by
      have hk : t / 20 < es.length := by omega
      obtain ⟨cs, hr, he⟩ := g4 (t / 20) _ (List.getElem?_eq_getElem hk)
      have hl := he.len
      have hj : cs[t % 20]? = some (cs[t % 20]'(by omega)) := List.getElem?_eq_getElem (by omega)
      have := hr _ _ hj
      rw [show o + t / 20 * 20 + t % 20 = o + t by omega] at this
      exact ⟨_, this, he.one _ (List.getElem_mem _)⟩
    let ys := (List.range (es.length * 20)).map fun t => (w.cell? ⟨bb, o + t, none⟩).getD undef
    have hys : ∀ t, t < es.length * 20 → ys[t]? = some ((w.cell? ⟨bb, o + t, none⟩).getD undef) := fun t ht => by simp [ys, ht]
    refine ⟨ys, ⟨by simp [ys], some ⟨bb, o, none⟩, c, rfl, fun h => (by cases h), fun j y hj => ⟨bb, o, rfl, ?_⟩⟩, fun u hu => ?_, fun k e hk => ?_⟩
    · have hjl : j < es.length * 20 := by have := (List.getElem?_eq_some_iff.1 hj).1; simpa [ys] using this
      obtain ⟨u, hu, _⟩ := hcell j hjl
      rw [hys j hjl, hu] at hj
      rw [hu]; simpa using hj
    · obtain ⟨t, ht, rfl⟩ := List.getElem_of_mem hu
      have htl : t < es.length * 20 := by simpa [ys] using ht
      obtain ⟨u, hu, h1⟩ := hcell t htl
      have := hys t htl
      rw [List.getElem?_eq_getElem ht, hu] at this
      have := Option.some.inj this
      rw [this]; exact h1
    · obtain ⟨cs, hr, he⟩ := g4 k e hk
      refine ⟨cs, fun j u hj => ?_, he⟩
      have hkl := (List.getElem?_eq_some_iff.1 hk).1
      have hjl := (List.getElem?_eq_some_iff.1 hj).1
      have hl := he.len
      rw [hys _ (by omega), ← Nat.add_assoc, hr j u hj]; rfl
theorem keepS {W2 W' : World} {b : Nat} {cs : List Value} (hr : W2.rangeAt b 0 cs) (hlt : b < W2.heap.size) (hb : Below W2.heap.size W2 W') : Below W2.heap.size W2 W' ∧ W'.rangeAt b 0 cs :=
  ⟨hb, fun j u hj => (hb.cell (p := ⟨b, _, none⟩) hlt).trans (hr j u hj)⟩
theorem keepS20 {W2 W' : World} {b : Nat} {x0 v1 v2 v3 v4 v5 v6 v7 v8 v9 v10 v11 v12 v13 v14 v15 v16 g sv x1 : Value} (hr : W2.rangeAt b 0 [x0, v1, v2, v3, v4, v5, v6, v7, v8, v9, v10, v11, v12, v13, v14, v15, v16, g, sv, x1]) (hlt : b < W2.heap.size) (hb : Below W2.heap.size W2 W') :
    Below W2.heap.size W2 W' ∧ W'.cell? ⟨b, 0, none⟩ = some x0 ∧ W'.cell? ⟨b, 1, none⟩ = some v1 ∧ W'.cell? ⟨b, 2, none⟩ = some v2 ∧ W'.cell? ⟨b, 3, none⟩ = some v3 ∧ W'.cell? ⟨b, 4, none⟩ = some v4 ∧ W'.cell? ⟨b, 5, none⟩ = some v5 ∧ W'.cell? ⟨b, 6, none⟩ = some v6 ∧ W'.cell? ⟨b, 7, none⟩ = some v7 ∧ W'.cell? ⟨b, 8, none⟩ = some v8 ∧ W'.cell? ⟨b, 9, none⟩ = some v9 ∧ W'.cell? ⟨b, 10, none⟩ = some v10 ∧ W'.cell? ⟨b, 11, none⟩ = some v11 ∧ W'.cell? ⟨b, 12, none⟩ = some v12 ∧ W'.cell? ⟨b, 13, none⟩ = some v13 ∧ W'.cell? ⟨b, 14, none⟩ = some v14 ∧ W'.cell? ⟨b, 15, none⟩ = some v15 ∧ W'.cell? ⟨b, 16, none⟩ = some v16 ∧ W'.cell? ⟨b, 17, none⟩ = some g ∧ W'.cell? ⟨b, 18, none⟩ = some sv ∧ W'.cell? ⟨b, 19, none⟩ = some x1 := by
  have h : ∀ j u, [x0, v1, v2, v3, v4, v5, v6, v7, v8, v9, v10, v11, v12, v13, v14, v15, v16, g, sv, x1][j]? = some u → W'.cell? ⟨b, j, none⟩ = some u := fun j u hj => by
    have := (keepS hr hlt hb).2 j u hj
    rwa [Nat.zero_add] at this
  exact ⟨hb, h 0 _ rfl, h 1 _ rfl, h 2 _ rfl, h 3 _ rfl, h 4 _ rfl, h 5 _ rfl, h 6 _ rfl, h 7 _ rfl, h 8 _ rfl, h 9 _ rfl, h 10 _ rfl, h 11 _ rfl, h 12 _ rfl, h 13 _ rfl, h 14 _ rfl, h 15 _ rfl, h 16 _ rfl, h 17 _ rfl, h 18 _ rfl, h 19 _ rfl⟩
theorem ev_append {W2 wD : World} {vD : Value} {ys cs : List Value} {es : List Ev} {ev : Ev} (ho : wD.ownsRow W2.heap.size 27 20 vD (0 + es.length + 1) ([] ++ ys ++ cs)) (hb : Below W2.heap.size W2 wD) (hl : ys.length = es.length * 20)
    (h2 : ∀ k e, es[k]? = some e → ∃ cs, (∀ j u, cs[j]? = some u → ys[k * 20 + j]? = some u) ∧ EvAt W2 e cs) (he : EvAt W2 ev cs) (hlen : es.length ≤ 1000) : SliceEv wD vD (es ++ [ev]) := by
  have h1 : OwnEv W2 wD W2.heap.size vD (es ++ [ev]) := OwnEv.append hl (by simpa using ho) h2 he
  exact h1.slice (by simp; omega) hb
def ops3 : Array Oper := #[{ dst := some 26, op := Op.buildSlice 22 0 #[], type := 22, pos := "law.go:84", after := #[], guard := none }, { dst := some 27, op := Op.move (Operand.tmp 0), type := 22, pos := "law.go:84", after := #[], guard := none }, { dst := some 28, op := Op.call { callee := Callee.builtin Builtin.append, args := #[Operand.tmp 26, Operand.tmp 27], argTypes := #[22, 22] }, type := 22, pos := "law.go:84", after := #[{ on := 0, ground := Ground.data }, { on := 1, ground := Ground.data }], guard := none }, { dst := some 29, op := Op.load 27 (Operand.tmp 3), type := 27, pos := "law.go:84", after := #[], guard := none }, { dst := some 30, op := Op.buildSlice 22 1 #[(0, Operand.tmp 29)], type := 22, pos := "law.go:84", after := #[{ on := 3, ground := Ground.data }], guard := none }, { dst := some 31, op := Op.call { callee := Callee.builtin Builtin.append, args := #[Operand.tmp 28, Operand.tmp 30], argTypes := #[22, 22] }, type := 22, pos := "law.go:84", after := #[{ on := 2, ground := Ground.data }, { on := 4, ground := Ground.data }, { on := 2, ground := Ground.chain }], guard := none }, { dst := some 32, op := Op.call { callee := Callee.value (Operand.func 10), args := #[Operand.tmp 31], argTypes := #[22] }, type := 31, pos := "law.go:84", after := #[{ on := 5, ground := Ground.data }, { on := 5, ground := Ground.chain }], guard := none }, { dst := some 25, op := Op.move (Operand.tmp 32), type := 31, pos := "law.go:84", after := #[{ on := 6, ground := Ground.data }], guard := none }, { dst := some 33, op := Op.extract (Operand.tmp 25) 0, type := 30, pos := "law.go:84", after := #[{ on := 7, ground := Ground.data }], guard := none }, { dst := some 34, op := Op.extract (Operand.tmp 25) 1, type := 22, pos := "law.go:84", after := #[{ on := 7, ground := Ground.data }, { on := 11, ground := Ground.gcOnly Departure.lateStores }], guard := none }, { dst := some 35, op := Op.extract (Operand.tmp 25) 2, type := 4, pos := "law.go:84", after := #[{ on := 7, ground := Ground.data }, { on := 12, ground := Ground.gcOnly Departure.lateStores }], guard := none }, { dst := some 5, op := Op.assign (Operand.tmp 33), type := 30, pos := "law.go:84", after := #[{ on := 8, ground := Ground.data }, { on := 6, ground := Ground.chain }, { on := 0, ground := Ground.phase }, { on := 1, ground := Ground.phase }, { on := 2, ground := Ground.phase }, { on := 3, ground := Ground.phase }, { on := 4, ground := Ground.phase }, { on := 5, ground := Ground.phase }, { on := 6, ground := Ground.phase }, { on := 7, ground := Ground.phase }, { on := 8, ground := Ground.phase }, { on := 9, ground := Ground.textOnly Departure.lateStores }, { on := 10, ground := Ground.textOnly Departure.lateStores }], guard := none }, { dst := some 6, op := Op.assign (Operand.tmp 34), type := 22, pos := "law.go:84", after := #[{ on := 9, ground := Ground.data }, { on := 11, ground := Ground.chain }, { on := 0, ground := Ground.phase }, { on := 1, ground := Ground.phase }, { on := 2, ground := Ground.phase }, { on := 3, ground := Ground.phase }, { on := 4, ground := Ground.phase }, { on := 5, ground := Ground.phase }, { on := 6, ground := Ground.phase }, { on := 7, ground := Ground.phase }, { on := 8, ground := Ground.phase }, { on := 9, ground := Ground.phase }, { on := 10, ground := Ground.textOnly Departure.lateStores }, { on := 11, ground := Ground.phase }], guard := none }, { dst := some 7, op := Op.assign (Operand.tmp 35), type := 4, pos := "law.go:84", after := #[{ on := 10, ground := Ground.data }, { on := 12, ground := Ground.chain }, { on := 0, ground := Ground.phase }, { on := 1, ground := Ground.phase }, { on := 2, ground := Ground.phase }, { on := 3, ground := Ground.phase }, { on := 4, ground := Ground.phase }, { on := 5, ground := Ground.phase }, { on := 6, ground := Ground.phase }, { on := 7, ground := Ground.phase }, { on := 8, ground := Ground.phase }, { on := 9, ground := Ground.phase }, { on := 10, ground := Ground.phase }, { on := 11, ground := Ground.phase }, { on := 12, ground := Ground.phase }], guard := none }]
set_option maxRecDepth 100000 in
set_option maxHeartbeats 3200000 in
theorem r3_tail (v : Value) (es : List Ev) (ev : Ev) (bx : Nat) (W2 wD : World) (vD : Value) (t1 t2 t4 t5 t6 t7 t8 t9 t10 t11 t12 t13 t14 t15 t16 t17 t18 t19 t20 t21 t22 t23 t24 t25 t26 t27 t28 t29 t30 t31 t32 t33 t34 t35 t36 t37 t38 t39 t40 t41 t42 t43 t44 t45 t46 t47 t48 t49 t50 t51 t52 t53 t54 t55 t56 t57 t58 t59 t60 t61 t62 t63 t64 t65 t66 t67 t68 t69 t70 t71 t72 t73 r26 r27 r28 r29 r30 : Value) (Q : Exit → Act → World → Prop) (h20 : es.length ≤ 20)
    (hP : ∀ c a a' w, Q (.panic c) a w → Q (.panic c) a' w) (hHeld : Below W2.heap.size W2 wD) (hsl : SliceEv wD vD (es ++ [ev]))
    (hQ : ∀ w5 ov r25 r26 r27 r28 r29 r30 r31 r32 r33 r34 r35, BuildAt wD w5 (es ++ [ev]) ov → Q .normal { tmps := #[v, t1, t2, .pointer (some ⟨bx, 0, none⟩), t4, .pointer (some ⟨wD.heap.size + 1, 0, none⟩), ov, .bool true, t8, t9, t10, t11, t12, t13, t14, t15, t16, t17, t18, t19, t20, t21, t22, t23, t24, r25, r26, r27, r28, r29, r30, r31, r32, r33, r34, r35, t36, t37, t38, t39, t40, t41, t42, t43, t44, t45, t46, t47, t48, t49, t50, t51, t52, t53, t54, t55, t56, t57, t58, t59, t60, t61, t62, t63, t64, t65, t66, t67, t68, t69, t70, t71, t72, t73], defers := [] } w5) :
    wpAnyH Tryz.prog .any ops3 Q (fun W' => Below W2.heap.size W2 W') 8 #[true, true, true, true, true, true, false, false, false, false, false, false, false, false] { tmps := #[v, t1, t2, .pointer (some ⟨bx, 0, none⟩), t4, t5, t6, t7, t8, t9, t10, t11, t12, t13, t14, t15, t16, t17, t18, t19, t20, t21, t22, t23, t24, t25, r26, r27, r28, r29, r30, vD, t32, t33, t34, t35, t36, t37, t38, t39, t40, t41, t42, t43, t44, t45, t46, t47, t48, t49, t50, t51, t52, t53, t54, t55, t56, t57, t58, t59, t60, t61, t62, t63, t64, t65, t66, t67, t68, t69, t70, t71, t72, t73], defers := [] } wD := by
  refine wpAnyH_ready (rs := [6]) (by kernel_rfl) (by simp) ?_
  refine AllReadyH.cons (o := ⟨some 32, Op.call { callee := Callee.value (Operand.func 10), args := #[Operand.tmp 31], argTypes := #[22] }, _, _, _, _⟩) rfl (fun K hK => ?_) AllReadyH.nil
  go_simp
  go_at_call 10
  refine (build_any vD (es ++ [ev]) _ hsl (by simp; omega)).mono ?_
  rintro e w5 ⟨ov, rfl, hB⟩
  have hB' := Lib.hid hB
  clear hB
  refine hK.out _ _ (hHeld.trans (hB'.out.bel.mono hHeld.size)) (fun hHeld => ?_)
  dsimp only at hQ
  refine wpAnyH_take (i := 7) (oi := { dst := some 25, op := Op.move (Operand.tmp 32), type := 31, pos := "law.go:84", after := #[{ on := 6, ground := Ground.data }], guard := none }) (v := (.tuple #[.pointer (some ⟨wD.heap.size + 1, 0, none⟩), ov, .bool true])) rfl (by kernel_rfl) (by kernel_rfl) (by kernel_rfl) (fun _ _ _ h => hP _ _ _ _ h) (Or.inl ⟨by rfl, fun w hSw => by go_simp⟩) hHeld ?_
  try simp only [Act.put, List.setIfInBounds_toArray, List.set_cons_zero, List.set_cons_succ]
  refine wpAnyH_take (i := 8) (oi := { dst := some 33, op := Op.extract (Operand.tmp 25) 0, type := 30, pos := "law.go:84", after := #[{ on := 7, ground := Ground.data }], guard := none }) (v := (.pointer (some ⟨wD.heap.size + 1, 0, none⟩))) rfl (by kernel_rfl) (by kernel_rfl) (by kernel_rfl) (fun _ _ _ h => hP _ _ _ _ h) (Or.inl ⟨by rfl, fun w hSw => by go_simp⟩) hHeld ?_
  try simp only [Act.put, List.setIfInBounds_toArray, List.set_cons_zero, List.set_cons_succ]
  refine wpAnyH_take (i := 9) (oi := { dst := some 34, op := Op.extract (Operand.tmp 25) 1, type := 22, pos := "law.go:84", after := #[{ on := 7, ground := Ground.data }, { on := 11, ground := Ground.gcOnly Departure.lateStores }], guard := none }) (v := ov) rfl (by kernel_rfl) (by kernel_rfl) (by kernel_rfl) (fun _ _ _ h => hP _ _ _ _ h) (Or.inl ⟨by rfl, fun w hSw => by go_simp⟩) hHeld ?_
  try simp only [Act.put, List.setIfInBounds_toArray, List.set_cons_zero, List.set_cons_succ]
  refine wpAnyH_take (i := 10) (oi := { dst := some 35, op := Op.extract (Operand.tmp 25) 2, type := 4, pos := "law.go:84", after := #[{ on := 7, ground := Ground.data }, { on := 12, ground := Ground.gcOnly Departure.lateStores }], guard := none }) (v := (.bool true)) rfl (by kernel_rfl) (by kernel_rfl) (by kernel_rfl) (fun _ _ _ h => hP _ _ _ _ h) (Or.inl ⟨by rfl, fun w hSw => by go_simp⟩) hHeld ?_
  try simp only [Act.put, List.setIfInBounds_toArray, List.set_cons_zero, List.set_cons_succ]
  refine wpAnyH_take (i := 11) (oi := { dst := some 5, op := Op.assign (Operand.tmp 33), type := 30, pos := "law.go:84", after := #[{ on := 8, ground := Ground.data }, { on := 6, ground := Ground.chain }, { on := 0, ground := Ground.phase }, { on := 1, ground := Ground.phase }, { on := 2, ground := Ground.phase }, { on := 3, ground := Ground.phase }, { on := 4, ground := Ground.phase }, { on := 5, ground := Ground.phase }, { on := 6, ground := Ground.phase }, { on := 7, ground := Ground.phase }, { on := 8, ground := Ground.phase }, { on := 9, ground := Ground.textOnly Departure.lateStores }, { on := 10, ground := Ground.textOnly Departure.lateStores }], guard := none }) (v := (.pointer (some ⟨wD.heap.size + 1, 0, none⟩))) rfl (by kernel_rfl) (by kernel_rfl) (by kernel_rfl) (fun _ _ _ h => hP _ _ _ _ h) (Or.inl ⟨by rfl, fun w hSw => by go_simp⟩) hHeld ?_
  try simp only [Act.put, List.setIfInBounds_toArray, List.set_cons_zero, List.set_cons_succ]
  refine wpAnyH_take (i := 12) (oi := { dst := some 6, op := Op.assign (Operand.tmp 34), type := 22, pos := "law.go:84", after := #[{ on := 9, ground := Ground.data }, { on := 11, ground := Ground.chain }, { on := 0, ground := Ground.phase }, { on := 1, ground := Ground.phase }, { on := 2, ground := Ground.phase }, { on := 3, ground := Ground.phase }, { on := 4, ground := Ground.phase }, { on := 5, ground := Ground.phase }, { on := 6, ground := Ground.phase }, { on := 7, ground := Ground.phase }, { on := 8, ground := Ground.phase }, { on := 9, ground := Ground.phase }, { on := 10, ground := Ground.textOnly Departure.lateStores }, { on := 11, ground := Ground.phase }], guard := none }) (v := ov) rfl (by kernel_rfl) (by kernel_rfl) (by kernel_rfl) (fun _ _ _ h => hP _ _ _ _ h) (Or.inl ⟨by rfl, fun w hSw => by go_simp⟩) hHeld ?_
  try simp only [Act.put, List.setIfInBounds_toArray, List.set_cons_zero, List.set_cons_succ]
  refine wpAnyH_take (i := 13) (oi := { dst := some 7, op := Op.assign (Operand.tmp 35), type := 4, pos := "law.go:84", after := #[{ on := 10, ground := Ground.data }, { on := 12, ground := Ground.chain }, { on := 0, ground := Ground.phase }, { on := 1, ground := Ground.phase }, { on := 2, ground := Ground.phase }, { on := 3, ground := Ground.phase }, { on := 4, ground := Ground.phase }, { on := 5, ground := Ground.phase }, { on := 6, ground := Ground.phase }, { on := 7, ground := Ground.phase }, { on := 8, ground := Ground.phase }, { on := 9, ground := Ground.phase }, { on := 10, ground := Ground.phase }, { on := 11, ground := Ground.phase }, { on := 12, ground := Ground.phase }], guard := none }) (v := (.bool true)) rfl (by kernel_rfl) (by kernel_rfl) (by kernel_rfl) (fun _ _ _ h => hP _ _ _ _ h) (Or.inl ⟨by rfl, fun w hSw => by go_simp⟩) hHeld ?_
  try simp only [Act.put, List.setIfInBounds_toArray, List.set_cons_zero, List.set_cons_succ]
  refine wpAnyH_done (by kernel_rfl) ?_ _
  exact hQ _ _ _ _ _ _ _ _ _ _ _ _ _ hB'.out
set_option maxRecDepth 100000 in
set_option maxHeartbeats 3200000 in
theorem region3 (v : Value) (es : List Ev) (ev : Ev) (ys : List Value) (bx : Nat) (x0 v1 v2 v3 v4 v5 v6 v7 v8 v9 v10 v11 v12 v13 v14 v15 v16 g sv x1 : Value) (W2 : World) (t1 t2 t4 t5 t6 t7 t8 t9 t10 t11 t12 t13 t14 t15 t16 t17 t18 t19 t20 t21 t22 t23 t24 t25 t26 t27 t28 t29 t30 t31 t32 t33 t34 t35 t36 t37 t38 t39 t40 t41 t42 t43 t44 t45 t46 t47 t48 t49 t50 t51 t52 t53 t54 t55 t56 t57 t58 t59 t60 t61 t62 t63 t64 t65 t66 t67 t68 t69 t70 t71 t72 t73 : Value) (Q : Exit → Act → World → Prop) (h20 : es.length ≤ 20) (hP : ∀ c a a' w, Q (.panic c) a w → Q (.panic c) a' w)
    (hsrc : SrcV W2 20 v es.length ys) (hone : ∀ u ∈ ys, u.oneCell' = true) (hcs : ∀ k e, es[k]? = some e → ∃ cs, (∀ j u, cs[j]? = some u → ys[k * 20 + j]? = some u) ∧ EvAt W2 e cs)
    (heW2 : EvAt W2 ev [x0, v1, v2, v3, v4, v5, v6, v7, v8, v9, v10, v11, v12, v13, v14, v15, v16, g, sv, x1]) (hr2 : W2.rangeAt bx 0 [x0, v1, v2, v3, v4, v5, v6, v7, v8, v9, v10, v11, v12, v13, v14, v15, v16, g, sv, x1]) (hltW : bx < W2.heap.size)
    (hQ : ∀ wD w5 ov r25 r26 r27 r28 r29 r30 r31 r32 r33 r34 r35, Below W2.heap.size W2 wD → BuildAt wD w5 (es ++ [ev]) ov → Q .normal { tmps := #[v, t1, t2, .pointer (some ⟨bx, 0, none⟩), t4, .pointer (some ⟨wD.heap.size + 1, 0, none⟩), ov, .bool true, t8, t9, t10, t11, t12, t13, t14, t15, t16, t17, t18, t19, t20, t21, t22, t23, t24, r25, r26, r27, r28, r29, r30, r31, r32, r33, r34, r35, t36, t37, t38, t39, t40, t41, t42, t43, t44, t45, t46, t47, t48, t49, t50, t51, t52, t53, t54, t55, t56, t57, t58, t59, t60, t61, t62, t63, t64, t65, t66, t67, t68, t69, t70, t71, t72, t73], defers := [] } w5) :
    (Code.region 3 ops3 true).wp Tryz.prog Q { tmps := #[v, t1, t2, .pointer (some ⟨bx, 0, none⟩), t4, t5, t6, t7, t8, t9, t10, t11, t12, t13, t14, t15, t16, t17, t18, t19, t20, t21, t22, t23, t24, t25, t26, t27, t28, t29, t30, t31, t32, t33, t34, t35, t36, t37, t38, t39, t40, t41, t42, t43, t44, t45, t46, t47, t48, t49, t50, t51, t52, t53, t54, t55, t56, t57, t58, t59, t60, t61, t62, t63, t64, t65, t66, t67, t68, t69, t70, t71, t72, t73], defers := [] } W2 := by
  obtain ⟨i0, hi, hz0, hz1, hz2⟩ := info_parts Tryz.infoEv
  have hone2 := heW2.one
  have hH : Below W2.heap.size W2 W2.drew := (Below.refl _ _).drew
  refine wp_region_held_drew (S := fun W' => Below W2.heap.size W2 W') (by kernel_rfl) hH (fun _ => ?_)
  refine wpAnyH_take (i := 3) (oi := { dst := some 29, op := Op.load 27 (Operand.tmp 3), type := 27, pos := "law.go:84", after := #[], guard := none }) (v := .agg #[x0, v1, v2, v3, v4, v5, v6, v7, v8, v9, v10, v11, v12, v13, v14, v15, v16, g, sv, x1]) rfl (by kernel_rfl) (by kernel_rfl) (by kernel_rfl) (fun _ _ _ h => hP _ _ _ _ h) (yieldsIf_load_mid (by rfl) _ _ rfl bx 0 rfl [x0, v1, v2, v3, v4, v5, v6, v7, v8, v9, v10, v11, v12, v13, v14, v15, v16, g, sv, x1] _ (fun W' hW => (keepS hr2 hltW hW).2) Tryz.underlying27 rfl (by kernel_rfl)) hH ?_
  try simp only [Act.put, List.setIfInBounds_toArray, List.set_cons_zero, List.set_cons_succ]
  refine wpAnyH_take (i := 1) (oi := { dst := some 27, op := Op.move (Operand.tmp 0), type := 22, pos := "law.go:84", after := #[], guard := none }) (v := v) rfl (by kernel_rfl) (by kernel_rfl) (by kernel_rfl) (fun _ _ _ h => hP _ _ _ _ h) (Or.inl ⟨by rfl, fun w hSw => by go_simp⟩) hH ?_
  try simp only [Act.put, List.setIfInBounds_toArray, List.set_cons_zero, List.set_cons_succ]
  refine wpAnyH_ready (rs := [0, 4]) (by kernel_rfl) (by simp) ?_
  refine AllReadyH.cons (o := { dst := some 26, op := Op.buildSlice 22 0 #[], type := 22, pos := "law.go:84", after := #[], guard := none }) rfl (fun K hK => ?_) ?_
  · skip
    go_simp
    have hA := (hH).alloc (hH).size (.cells #[] 27)
    refine hK.out _ _ hA (fun _ => ?_)
    clear hK
    try simp only [Act.put, List.setIfInBounds_toArray, List.set_cons_zero, List.set_cons_succ]
    refine wpAnyH_ready (rs := [2, 4]) (by kernel_rfl) (by simp) ?_
    refine AllReadyH.cons (o := { dst := some 28, op := Op.call { callee := Callee.builtin Builtin.append, args := #[Operand.tmp 26, Operand.tmp 27], argTypes := #[22, 22] }, type := 22, pos := "law.go:84", after := #[{ on := 0, ground := Ground.data }, { on := 1, ground := Ground.data }], guard := none }) rfl (fun K hK => ?_) ?_
    · skip
      refine step_append_bel (o := { dst := some 28, op := Op.call { callee := Callee.builtin Builtin.append, args := #[Operand.tmp 26, Operand.tmp 27], argTypes := #[22, 22] }, type := 22, pos := "law.go:84", after := #[{ on := 0, ground := Ground.data }, { on := 1, ground := Ground.data }], guard := none }) _ rfl (.tmp 26) (.tmp 27) 22 (by rfl) W2 hA 27 i0 _ 20 80 Tryz.underlying22 hi hz0 hz1 hz2 rfl (by omega) (.slice (some ⟨W2.heap.size, 0, none⟩) 0 0) 0 [] rfl (own_empty (by exact heap_alloc_new _ _) (by first | exact Nat.le_refl _ | omega)) v es.length ys rfl (hsrc.below hA) hone (by omega) (by omega) ?_
      intro vB wB hownB hbB hgB hatB
      refine hK.out _ _ hbB (fun _ => ?_)
      clear hK
      try simp only [Act.put, List.setIfInBounds_toArray, List.set_cons_zero, List.set_cons_succ]
      refine wpAnyH_ready (rs := [4]) (by kernel_rfl) (by simp) ?_
      refine AllReadyH.cons (o := { dst := some 30, op := Op.buildSlice 22 1 #[(0, Operand.tmp 29)], type := 22, pos := "law.go:84", after := #[{ on := 3, ground := Ground.data }], guard := none }) rfl (fun K hK => ?_) AllReadyH.nil
      go_simp
      have hC := (hbB).alloc (hbB).size (.cells #[x0, v1, v2, v3, v4, v5, v6, v7, v8, v9, v10, v11, v12, v13, v14, v15, v16, g, sv, x1] 27)
      refine hK.out _ _ hC (fun _ => ?_)
      clear hK
      try simp only [Act.put, List.setIfInBounds_toArray, List.set_cons_zero, List.set_cons_succ]
      refine wpAnyH_ready (rs := [5]) (by kernel_rfl) (by simp) ?_
      refine AllReadyH.cons (o := { dst := some 31, op := Op.call { callee := Callee.builtin Builtin.append, args := #[Operand.tmp 28, Operand.tmp 30], argTypes := #[22, 22] }, type := 22, pos := "law.go:84", after := #[{ on := 2, ground := Ground.data }, { on := 4, ground := Ground.data }, { on := 2, ground := Ground.chain }], guard := none }) rfl (fun K hK => ?_) AllReadyH.nil
      refine step_append_bel (o := { dst := some 31, op := Op.call { callee := Callee.builtin Builtin.append, args := #[Operand.tmp 28, Operand.tmp 30], argTypes := #[22, 22] }, type := 22, pos := "law.go:84", after := #[{ on := 2, ground := Ground.data }, { on := 4, ground := Ground.data }, { on := 2, ground := Ground.chain }], guard := none }) _ rfl (.tmp 28) (.tmp 30) 22 (by rfl) W2 hC 27 i0 _ 20 80 Tryz.underlying22 hi hz0 hz1 hz2 rfl (by omega) vB (0 + es.length) _ rfl (hownB.alloc _) (.slice (some ⟨wB.heap.size, 0, none⟩) 1 1) 1 [x0, v1, v2, v3, v4, v5, v6, v7, v8, v9, v10, v11, v12, v13, v14, v15, v16, g, sv, x1] rfl (by exact src_block (heap_alloc_new _ _) rfl) hone2 (by omega) (by omega) ?_
      intro vD wD hownD hbD hgD hatD
      refine hK.out _ _ hbD (fun _ => ?_)
      clear hK
      try simp only [Act.put, List.setIfInBounds_toArray, List.set_cons_zero, List.set_cons_succ]
      exact r3_tail v es ev bx W2 wD vD t1 t2 t4 t5 t6 t7 t8 t9 t10 t11 t12 t13 t14 t15 t16 t17 t18 t19 t20 t21 t22 t23 t24 t25 t26 t27 t28 t29 t30 t31 t32 t33 t34 t35 t36 t37 t38 t39 t40 t41 t42 t43 t44 t45 t46 t47 t48 t49 t50 t51 t52 t53 t54 t55 t56 t57 t58 t59 t60 t61 t62 t63 t64 t65 t66 t67 t68 t69 t70 t71 t72 t73 _ _ _ _ _ Q h20 hP hbD (ev_append hownD hbD hsrc.1 hcs heW2 (by omega)) (fun w5 ov r25 r26 r27 r28 r29 r30 r31 r32 r33 r34 r35 hB => hQ wD w5 ov r25 r26 r27 r28 r29 r30 r31 r32 r33 r34 r35 hbD hB)
    · skip
      refine AllReadyH.cons (o := { dst := some 30, op := Op.buildSlice 22 1 #[(0, Operand.tmp 29)], type := 22, pos := "law.go:84", after := #[{ on := 3, ground := Ground.data }], guard := none }) rfl (fun K hK => ?_) AllReadyH.nil
      go_simp
      have hC := (hA).alloc (hA).size (.cells #[x0, v1, v2, v3, v4, v5, v6, v7, v8, v9, v10, v11, v12, v13, v14, v15, v16, g, sv, x1] 27)
      refine hK.out _ _ hC (fun _ => ?_)
      clear hK
      try simp only [Act.put, List.setIfInBounds_toArray, List.set_cons_zero, List.set_cons_succ]
      refine wpAnyH_ready (rs := [2]) (by kernel_rfl) (by simp) ?_
      refine AllReadyH.cons (o := { dst := some 28, op := Op.call { callee := Callee.builtin Builtin.append, args := #[Operand.tmp 26, Operand.tmp 27], argTypes := #[22, 22] }, type := 22, pos := "law.go:84", after := #[{ on := 0, ground := Ground.data }, { on := 1, ground := Ground.data }], guard := none }) rfl (fun K hK => ?_) AllReadyH.nil
      refine step_append_bel (o := { dst := some 28, op := Op.call { callee := Callee.builtin Builtin.append, args := #[Operand.tmp 26, Operand.tmp 27], argTypes := #[22, 22] }, type := 22, pos := "law.go:84", after := #[{ on := 0, ground := Ground.data }, { on := 1, ground := Ground.data }], guard := none }) _ rfl (.tmp 26) (.tmp 27) 22 (by rfl) W2 hC 27 i0 _ 20 80 Tryz.underlying22 hi hz0 hz1 hz2 rfl (by omega) (.slice (some ⟨W2.heap.size, 0, none⟩) 0 0) 0 [] rfl (own_empty (by exact heap_alloc2_old _ _ _) (by first | exact Nat.le_refl _ | omega)) v es.length ys rfl (hsrc.below hC) hone (by omega) (by omega) ?_
      intro vB wB hownB hbB hgB hatB
      refine hK.out _ _ hbB (fun _ => ?_)
      clear hK
      try simp only [Act.put, List.setIfInBounds_toArray, List.set_cons_zero, List.set_cons_succ]
      refine wpAnyH_ready (rs := [5]) (by kernel_rfl) (by simp) ?_
      refine AllReadyH.cons (o := { dst := some 31, op := Op.call { callee := Callee.builtin Builtin.append, args := #[Operand.tmp 28, Operand.tmp 30], argTypes := #[22, 22] }, type := 22, pos := "law.go:84", after := #[{ on := 2, ground := Ground.data }, { on := 4, ground := Ground.data }, { on := 2, ground := Ground.chain }], guard := none }) rfl (fun K hK => ?_) AllReadyH.nil
      refine step_append_bel (o := { dst := some 31, op := Op.call { callee := Callee.builtin Builtin.append, args := #[Operand.tmp 28, Operand.tmp 30], argTypes := #[22, 22] }, type := 22, pos := "law.go:84", after := #[{ on := 2, ground := Ground.data }, { on := 4, ground := Ground.data }, { on := 2, ground := Ground.chain }], guard := none }) _ rfl (.tmp 28) (.tmp 30) 22 (by rfl) W2 hbB 27 i0 _ 20 80 Tryz.underlying22 hi hz0 hz1 hz2 rfl (by omega) vB (0 + es.length) _ rfl (hownB) (.slice (some ⟨W2.heap.size + 1, 0, none⟩) 1 1) 1 [x0, v1, v2, v3, v4, v5, v6, v7, v8, v9, v10, v11, v12, v13, v14, v15, v16, g, sv, x1] rfl (by exact src_block ((hgB.block _ (by simp) (by simp [Value.ownBlock])).trans (heap_alloc2_new _ _ _)) rfl) hone2 (by omega) (by omega) ?_
      intro vD wD hownD hbD hgD hatD
      refine hK.out _ _ hbD (fun _ => ?_)
      clear hK
      try simp only [Act.put, List.setIfInBounds_toArray, List.set_cons_zero, List.set_cons_succ]
      exact r3_tail v es ev bx W2 wD vD t1 t2 t4 t5 t6 t7 t8 t9 t10 t11 t12 t13 t14 t15 t16 t17 t18 t19 t20 t21 t22 t23 t24 t25 t26 t27 t28 t29 t30 t31 t32 t33 t34 t35 t36 t37 t38 t39 t40 t41 t42 t43 t44 t45 t46 t47 t48 t49 t50 t51 t52 t53 t54 t55 t56 t57 t58 t59 t60 t61 t62 t63 t64 t65 t66 t67 t68 t69 t70 t71 t72 t73 _ _ _ _ _ Q h20 hP hbD (ev_append hownD hbD hsrc.1 hcs heW2 (by omega)) (fun w5 ov r25 r26 r27 r28 r29 r30 r31 r32 r33 r34 r35 hB => hQ wD w5 ov r25 r26 r27 r28 r29 r30 r31 r32 r33 r34 r35 hbD hB)
  · skip
    refine AllReadyH.cons (o := { dst := some 30, op := Op.buildSlice 22 1 #[(0, Operand.tmp 29)], type := 22, pos := "law.go:84", after := #[{ on := 3, ground := Ground.data }], guard := none }) rfl (fun K hK => ?_) AllReadyH.nil
    go_simp
    have hC := (hH).alloc (hH).size (.cells #[x0, v1, v2, v3, v4, v5, v6, v7, v8, v9, v10, v11, v12, v13, v14, v15, v16, g, sv, x1] 27)
    refine hK.out _ _ hC (fun _ => ?_)
    clear hK
    try simp only [Act.put, List.setIfInBounds_toArray, List.set_cons_zero, List.set_cons_succ]
    refine wpAnyH_ready (rs := [0]) (by kernel_rfl) (by simp) ?_
    refine AllReadyH.cons (o := { dst := some 26, op := Op.buildSlice 22 0 #[], type := 22, pos := "law.go:84", after := #[], guard := none }) rfl (fun K hK => ?_) AllReadyH.nil
    go_simp
    have hA := (hC).alloc (hC).size (.cells #[] 27)
    refine hK.out _ _ hA (fun _ => ?_)
    clear hK
    try simp only [Act.put, List.setIfInBounds_toArray, List.set_cons_zero, List.set_cons_succ]
    refine wpAnyH_ready (rs := [2]) (by kernel_rfl) (by simp) ?_
    refine AllReadyH.cons (o := { dst := some 28, op := Op.call { callee := Callee.builtin Builtin.append, args := #[Operand.tmp 26, Operand.tmp 27], argTypes := #[22, 22] }, type := 22, pos := "law.go:84", after := #[{ on := 0, ground := Ground.data }, { on := 1, ground := Ground.data }], guard := none }) rfl (fun K hK => ?_) AllReadyH.nil
    refine step_append_bel (o := { dst := some 28, op := Op.call { callee := Callee.builtin Builtin.append, args := #[Operand.tmp 26, Operand.tmp 27], argTypes := #[22, 22] }, type := 22, pos := "law.go:84", after := #[{ on := 0, ground := Ground.data }, { on := 1, ground := Ground.data }], guard := none }) _ rfl (.tmp 26) (.tmp 27) 22 (by rfl) W2 hA 27 i0 _ 20 80 Tryz.underlying22 hi hz0 hz1 hz2 rfl (by omega) (.slice (some ⟨W2.heap.size + 1, 0, none⟩) 0 0) 0 [] rfl (own_empty (by exact heap_alloc2_new _ _ _) (by first | exact Nat.le_refl _ | omega)) v es.length ys rfl (hsrc.below hA) hone (by omega) (by omega) ?_
    intro vB wB hownB hbB hgB hatB
    refine hK.out _ _ hbB (fun _ => ?_)
    clear hK
    try simp only [Act.put, List.setIfInBounds_toArray, List.set_cons_zero, List.set_cons_succ]
    refine wpAnyH_ready (rs := [5]) (by kernel_rfl) (by simp) ?_
    refine AllReadyH.cons (o := { dst := some 31, op := Op.call { callee := Callee.builtin Builtin.append, args := #[Operand.tmp 28, Operand.tmp 30], argTypes := #[22, 22] }, type := 22, pos := "law.go:84", after := #[{ on := 2, ground := Ground.data }, { on := 4, ground := Ground.data }, { on := 2, ground := Ground.chain }], guard := none }) rfl (fun K hK => ?_) AllReadyH.nil
    refine step_append_bel (o := { dst := some 31, op := Op.call { callee := Callee.builtin Builtin.append, args := #[Operand.tmp 28, Operand.tmp 30], argTypes := #[22, 22] }, type := 22, pos := "law.go:84", after := #[{ on := 2, ground := Ground.data }, { on := 4, ground := Ground.data }, { on := 2, ground := Ground.chain }], guard := none }) _ rfl (.tmp 28) (.tmp 30) 22 (by rfl) W2 hbB 27 i0 _ 20 80 Tryz.underlying22 hi hz0 hz1 hz2 rfl (by omega) vB (0 + es.length) _ rfl (hownB) (.slice (some ⟨W2.heap.size, 0, none⟩) 1 1) 1 [x0, v1, v2, v3, v4, v5, v6, v7, v8, v9, v10, v11, v12, v13, v14, v15, v16, g, sv, x1] rfl (by exact src_block ((hgB.block _ (by simp <;> omega) (by simp [Value.ownBlock])).trans (heap_alloc2_old _ _ _)) rfl) hone2 (by omega) (by omega) ?_
    intro vD wD hownD hbD hgD hatD
    refine hK.out _ _ hbD (fun _ => ?_)
    clear hK
    try simp only [Act.put, List.setIfInBounds_toArray, List.set_cons_zero, List.set_cons_succ]
    exact r3_tail v es ev bx W2 wD vD t1 t2 t4 t5 t6 t7 t8 t9 t10 t11 t12 t13 t14 t15 t16 t17 t18 t19 t20 t21 t22 t23 t24 t25 t26 t27 t28 t29 t30 t31 t32 t33 t34 t35 t36 t37 t38 t39 t40 t41 t42 t43 t44 t45 t46 t47 t48 t49 t50 t51 t52 t53 t54 t55 t56 t57 t58 t59 t60 t61 t62 t63 t64 t65 t66 t67 t68 t69 t70 t71 t72 t73 _ _ _ _ _ Q h20 hP hbD (ev_append hownD hbD hsrc.1 hcs heW2 (by omega)) (fun w5 ov r25 r26 r27 r28 r29 r30 r31 r32 r33 r34 r35 hB => hQ wD w5 ov r25 r26 r27 r28 r29 r30 r31 r32 r33 r34 r35 hbD hB)
end Go.Proofs.YtlemadbmlnjhpaaGreatDoor
namespace Go.Proofs.YtlemadbmlnjhpaaGreatDoor
open Go Go.RowKit Go.Proofs
set_option linter.unusedSimpArgs false
set_option linter.unusedVariables false

theorem list18 (zs : List Int) (h : zs.length = 18) : ∃ z0 z1 z2 z3 z4 z5 z6 z7 z8 z9 z10 z11 z12 z13 z14 z15 z16 z17, zs = [z0, z1, z2, z3, z4, z5, z6, z7, z8, z9, z10, z11, z12, z13, z14, z15, z16, z17] := by
  match zs, h with
  | [z0, z1, z2, z3, z4, z5, z6, z7, z8, z9, z10, z11, z12, z13, z14, z15, z16, z17], _ => exact ⟨z0, z1, z2, z3, z4, z5, z6, z7, z8, z9, z10, z11, z12, z13, z14, z15, z16, z17, rfl⟩
theorem Tryz.ixSz0 (z0 z1 z2 z3 z4 z5 z6 z7 z8 z9 z10 z11 z12 z13 z14 z15 z16 z17 : Int) (w : World) : (Instr.index 41 (.agg #[.int .i64 z0, .int .i64 z1, .int .i64 z2, .int .i64 z3, .int .i64 z4, .int .i64 z5, .int .i64 z6, .int .i64 z7, .int .i64 z8, .int .i64 z9, .int .i64 z10, .int .i64 z11, .int .i64 z12, .int .i64 z13, .int .i64 z14, .int .i64 z15, .int .i64 z16, .int .i64 z17]) (.int .i64 ((0 : Nat) : Int))).run Tryz.prog w = .ok (.int .i64 z0) w := by kernel_rfl
theorem Tryz.ixSz1 (z0 z1 z2 z3 z4 z5 z6 z7 z8 z9 z10 z11 z12 z13 z14 z15 z16 z17 : Int) (w : World) : (Instr.index 41 (.agg #[.int .i64 z0, .int .i64 z1, .int .i64 z2, .int .i64 z3, .int .i64 z4, .int .i64 z5, .int .i64 z6, .int .i64 z7, .int .i64 z8, .int .i64 z9, .int .i64 z10, .int .i64 z11, .int .i64 z12, .int .i64 z13, .int .i64 z14, .int .i64 z15, .int .i64 z16, .int .i64 z17]) (.int .i64 ((1 : Nat) : Int))).run Tryz.prog w = .ok (.int .i64 z1) w := by kernel_rfl
theorem Tryz.ixSz2 (z0 z1 z2 z3 z4 z5 z6 z7 z8 z9 z10 z11 z12 z13 z14 z15 z16 z17 : Int) (w : World) : (Instr.index 41 (.agg #[.int .i64 z0, .int .i64 z1, .int .i64 z2, .int .i64 z3, .int .i64 z4, .int .i64 z5, .int .i64 z6, .int .i64 z7, .int .i64 z8, .int .i64 z9, .int .i64 z10, .int .i64 z11, .int .i64 z12, .int .i64 z13, .int .i64 z14, .int .i64 z15, .int .i64 z16, .int .i64 z17]) (.int .i64 ((2 : Nat) : Int))).run Tryz.prog w = .ok (.int .i64 z2) w := by kernel_rfl
theorem Tryz.ixSz3 (z0 z1 z2 z3 z4 z5 z6 z7 z8 z9 z10 z11 z12 z13 z14 z15 z16 z17 : Int) (w : World) : (Instr.index 41 (.agg #[.int .i64 z0, .int .i64 z1, .int .i64 z2, .int .i64 z3, .int .i64 z4, .int .i64 z5, .int .i64 z6, .int .i64 z7, .int .i64 z8, .int .i64 z9, .int .i64 z10, .int .i64 z11, .int .i64 z12, .int .i64 z13, .int .i64 z14, .int .i64 z15, .int .i64 z16, .int .i64 z17]) (.int .i64 ((3 : Nat) : Int))).run Tryz.prog w = .ok (.int .i64 z3) w := by kernel_rfl
theorem Tryz.ixSz4 (z0 z1 z2 z3 z4 z5 z6 z7 z8 z9 z10 z11 z12 z13 z14 z15 z16 z17 : Int) (w : World) : (Instr.index 41 (.agg #[.int .i64 z0, .int .i64 z1, .int .i64 z2, .int .i64 z3, .int .i64 z4, .int .i64 z5, .int .i64 z6, .int .i64 z7, .int .i64 z8, .int .i64 z9, .int .i64 z10, .int .i64 z11, .int .i64 z12, .int .i64 z13, .int .i64 z14, .int .i64 z15, .int .i64 z16, .int .i64 z17]) (.int .i64 ((4 : Nat) : Int))).run Tryz.prog w = .ok (.int .i64 z4) w := by kernel_rfl
theorem Tryz.ixSz5 (z0 z1 z2 z3 z4 z5 z6 z7 z8 z9 z10 z11 z12 z13 z14 z15 z16 z17 : Int) (w : World) : (Instr.index 41 (.agg #[.int .i64 z0, .int .i64 z1, .int .i64 z2, .int .i64 z3, .int .i64 z4, .int .i64 z5, .int .i64 z6, .int .i64 z7, .int .i64 z8, .int .i64 z9, .int .i64 z10, .int .i64 z11, .int .i64 z12, .int .i64 z13, .int .i64 z14, .int .i64 z15, .int .i64 z16, .int .i64 z17]) (.int .i64 ((5 : Nat) : Int))).run Tryz.prog w = .ok (.int .i64 z5) w := by kernel_rfl
theorem Tryz.ixSz6 (z0 z1 z2 z3 z4 z5 z6 z7 z8 z9 z10 z11 z12 z13 z14 z15 z16 z17 : Int) (w : World) : (Instr.index 41 (.agg #[.int .i64 z0, .int .i64 z1, .int .i64 z2, .int .i64 z3, .int .i64 z4, .int .i64 z5, .int .i64 z6, .int .i64 z7, .int .i64 z8, .int .i64 z9, .int .i64 z10, .int .i64 z11, .int .i64 z12, .int .i64 z13, .int .i64 z14, .int .i64 z15, .int .i64 z16, .int .i64 z17]) (.int .i64 ((6 : Nat) : Int))).run Tryz.prog w = .ok (.int .i64 z6) w := by kernel_rfl
theorem Tryz.ixSz7 (z0 z1 z2 z3 z4 z5 z6 z7 z8 z9 z10 z11 z12 z13 z14 z15 z16 z17 : Int) (w : World) : (Instr.index 41 (.agg #[.int .i64 z0, .int .i64 z1, .int .i64 z2, .int .i64 z3, .int .i64 z4, .int .i64 z5, .int .i64 z6, .int .i64 z7, .int .i64 z8, .int .i64 z9, .int .i64 z10, .int .i64 z11, .int .i64 z12, .int .i64 z13, .int .i64 z14, .int .i64 z15, .int .i64 z16, .int .i64 z17]) (.int .i64 ((7 : Nat) : Int))).run Tryz.prog w = .ok (.int .i64 z7) w := by kernel_rfl
theorem Tryz.ixSz8 (z0 z1 z2 z3 z4 z5 z6 z7 z8 z9 z10 z11 z12 z13 z14 z15 z16 z17 : Int) (w : World) : (Instr.index 41 (.agg #[.int .i64 z0, .int .i64 z1, .int .i64 z2, .int .i64 z3, .int .i64 z4, .int .i64 z5, .int .i64 z6, .int .i64 z7, .int .i64 z8, .int .i64 z9, .int .i64 z10, .int .i64 z11, .int .i64 z12, .int .i64 z13, .int .i64 z14, .int .i64 z15, .int .i64 z16, .int .i64 z17]) (.int .i64 ((8 : Nat) : Int))).run Tryz.prog w = .ok (.int .i64 z8) w := by kernel_rfl
theorem Tryz.ixSz9 (z0 z1 z2 z3 z4 z5 z6 z7 z8 z9 z10 z11 z12 z13 z14 z15 z16 z17 : Int) (w : World) : (Instr.index 41 (.agg #[.int .i64 z0, .int .i64 z1, .int .i64 z2, .int .i64 z3, .int .i64 z4, .int .i64 z5, .int .i64 z6, .int .i64 z7, .int .i64 z8, .int .i64 z9, .int .i64 z10, .int .i64 z11, .int .i64 z12, .int .i64 z13, .int .i64 z14, .int .i64 z15, .int .i64 z16, .int .i64 z17]) (.int .i64 ((9 : Nat) : Int))).run Tryz.prog w = .ok (.int .i64 z9) w := by kernel_rfl
theorem Tryz.ixSz10 (z0 z1 z2 z3 z4 z5 z6 z7 z8 z9 z10 z11 z12 z13 z14 z15 z16 z17 : Int) (w : World) : (Instr.index 41 (.agg #[.int .i64 z0, .int .i64 z1, .int .i64 z2, .int .i64 z3, .int .i64 z4, .int .i64 z5, .int .i64 z6, .int .i64 z7, .int .i64 z8, .int .i64 z9, .int .i64 z10, .int .i64 z11, .int .i64 z12, .int .i64 z13, .int .i64 z14, .int .i64 z15, .int .i64 z16, .int .i64 z17]) (.int .i64 ((10 : Nat) : Int))).run Tryz.prog w = .ok (.int .i64 z10) w := by kernel_rfl
theorem Tryz.ixSz11 (z0 z1 z2 z3 z4 z5 z6 z7 z8 z9 z10 z11 z12 z13 z14 z15 z16 z17 : Int) (w : World) : (Instr.index 41 (.agg #[.int .i64 z0, .int .i64 z1, .int .i64 z2, .int .i64 z3, .int .i64 z4, .int .i64 z5, .int .i64 z6, .int .i64 z7, .int .i64 z8, .int .i64 z9, .int .i64 z10, .int .i64 z11, .int .i64 z12, .int .i64 z13, .int .i64 z14, .int .i64 z15, .int .i64 z16, .int .i64 z17]) (.int .i64 ((11 : Nat) : Int))).run Tryz.prog w = .ok (.int .i64 z11) w := by kernel_rfl
theorem Tryz.ixSz12 (z0 z1 z2 z3 z4 z5 z6 z7 z8 z9 z10 z11 z12 z13 z14 z15 z16 z17 : Int) (w : World) : (Instr.index 41 (.agg #[.int .i64 z0, .int .i64 z1, .int .i64 z2, .int .i64 z3, .int .i64 z4, .int .i64 z5, .int .i64 z6, .int .i64 z7, .int .i64 z8, .int .i64 z9, .int .i64 z10, .int .i64 z11, .int .i64 z12, .int .i64 z13, .int .i64 z14, .int .i64 z15, .int .i64 z16, .int .i64 z17]) (.int .i64 ((12 : Nat) : Int))).run Tryz.prog w = .ok (.int .i64 z12) w := by kernel_rfl
theorem Tryz.ixSz13 (z0 z1 z2 z3 z4 z5 z6 z7 z8 z9 z10 z11 z12 z13 z14 z15 z16 z17 : Int) (w : World) : (Instr.index 41 (.agg #[.int .i64 z0, .int .i64 z1, .int .i64 z2, .int .i64 z3, .int .i64 z4, .int .i64 z5, .int .i64 z6, .int .i64 z7, .int .i64 z8, .int .i64 z9, .int .i64 z10, .int .i64 z11, .int .i64 z12, .int .i64 z13, .int .i64 z14, .int .i64 z15, .int .i64 z16, .int .i64 z17]) (.int .i64 ((13 : Nat) : Int))).run Tryz.prog w = .ok (.int .i64 z13) w := by kernel_rfl
theorem Tryz.ixSz14 (z0 z1 z2 z3 z4 z5 z6 z7 z8 z9 z10 z11 z12 z13 z14 z15 z16 z17 : Int) (w : World) : (Instr.index 41 (.agg #[.int .i64 z0, .int .i64 z1, .int .i64 z2, .int .i64 z3, .int .i64 z4, .int .i64 z5, .int .i64 z6, .int .i64 z7, .int .i64 z8, .int .i64 z9, .int .i64 z10, .int .i64 z11, .int .i64 z12, .int .i64 z13, .int .i64 z14, .int .i64 z15, .int .i64 z16, .int .i64 z17]) (.int .i64 ((14 : Nat) : Int))).run Tryz.prog w = .ok (.int .i64 z14) w := by kernel_rfl
theorem Tryz.ixSz15 (z0 z1 z2 z3 z4 z5 z6 z7 z8 z9 z10 z11 z12 z13 z14 z15 z16 z17 : Int) (w : World) : (Instr.index 41 (.agg #[.int .i64 z0, .int .i64 z1, .int .i64 z2, .int .i64 z3, .int .i64 z4, .int .i64 z5, .int .i64 z6, .int .i64 z7, .int .i64 z8, .int .i64 z9, .int .i64 z10, .int .i64 z11, .int .i64 z12, .int .i64 z13, .int .i64 z14, .int .i64 z15, .int .i64 z16, .int .i64 z17]) (.int .i64 ((15 : Nat) : Int))).run Tryz.prog w = .ok (.int .i64 z15) w := by kernel_rfl
theorem Tryz.ixSz16 (z0 z1 z2 z3 z4 z5 z6 z7 z8 z9 z10 z11 z12 z13 z14 z15 z16 z17 : Int) (w : World) : (Instr.index 41 (.agg #[.int .i64 z0, .int .i64 z1, .int .i64 z2, .int .i64 z3, .int .i64 z4, .int .i64 z5, .int .i64 z6, .int .i64 z7, .int .i64 z8, .int .i64 z9, .int .i64 z10, .int .i64 z11, .int .i64 z12, .int .i64 z13, .int .i64 z14, .int .i64 z15, .int .i64 z16, .int .i64 z17]) (.int .i64 ((16 : Nat) : Int))).run Tryz.prog w = .ok (.int .i64 z16) w := by kernel_rfl
theorem Tryz.ixSz17 (z0 z1 z2 z3 z4 z5 z6 z7 z8 z9 z10 z11 z12 z13 z14 z15 z16 z17 : Int) (w : World) : (Instr.index 41 (.agg #[.int .i64 z0, .int .i64 z1, .int .i64 z2, .int .i64 z3, .int .i64 z4, .int .i64 z5, .int .i64 z6, .int .i64 z7, .int .i64 z8, .int .i64 z9, .int .i64 z10, .int .i64 z11, .int .i64 z12, .int .i64 z13, .int .i64 z14, .int .i64 z15, .int .i64 z16, .int .i64 z17]) (.int .i64 ((17 : Nat) : Int))).run Tryz.prog w = .ok (.int .i64 z17) w := by kernel_rfl
theorem Tryz.index_arr (zs : List Int) (h : zs.length = 18) (k : Nat) (hk : k < 18) (w : World) : (Instr.index 41 (.agg (zs.map (Value.int .i64)).toArray) (.int .i64 k)).run Tryz.prog w = .ok (.int .i64 (zs.getD k 0)) w := by
  obtain ⟨z0, z1, z2, z3, z4, z5, z6, z7, z8, z9, z10, z11, z12, z13, z14, z15, z16, z17, rfl⟩ := list18 zs h
  have : k = 0 ∨ k = 1 ∨ k = 2 ∨ k = 3 ∨ k = 4 ∨ k = 5 ∨ k = 6 ∨ k = 7 ∨ k = 8 ∨ k = 9 ∨ k = 10 ∨ k = 11 ∨ k = 12 ∨ k = 13 ∨ k = 14 ∨ k = 15 ∨ k = 16 ∨ k = 17 := by omega
  rcases this with rfl | rfl | rfl | rfl | rfl | rfl | rfl | rfl | rfl | rfl | rfl | rfl | rfl | rfl | rfl | rfl | rfl | rfl
  · exact Tryz.ixSz0 z0 z1 z2 z3 z4 z5 z6 z7 z8 z9 z10 z11 z12 z13 z14 z15 z16 z17 w
  · exact Tryz.ixSz1 z0 z1 z2 z3 z4 z5 z6 z7 z8 z9 z10 z11 z12 z13 z14 z15 z16 z17 w
  · exact Tryz.ixSz2 z0 z1 z2 z3 z4 z5 z6 z7 z8 z9 z10 z11 z12 z13 z14 z15 z16 z17 w
  · exact Tryz.ixSz3 z0 z1 z2 z3 z4 z5 z6 z7 z8 z9 z10 z11 z12 z13 z14 z15 z16 z17 w
  · exact Tryz.ixSz4 z0 z1 z2 z3 z4 z5 z6 z7 z8 z9 z10 z11 z12 z13 z14 z15 z16 z17 w
  · exact Tryz.ixSz5 z0 z1 z2 z3 z4 z5 z6 z7 z8 z9 z10 z11 z12 z13 z14 z15 z16 z17 w
  · exact Tryz.ixSz6 z0 z1 z2 z3 z4 z5 z6 z7 z8 z9 z10 z11 z12 z13 z14 z15 z16 z17 w
  · exact Tryz.ixSz7 z0 z1 z2 z3 z4 z5 z6 z7 z8 z9 z10 z11 z12 z13 z14 z15 z16 z17 w
  · exact Tryz.ixSz8 z0 z1 z2 z3 z4 z5 z6 z7 z8 z9 z10 z11 z12 z13 z14 z15 z16 z17 w
  · exact Tryz.ixSz9 z0 z1 z2 z3 z4 z5 z6 z7 z8 z9 z10 z11 z12 z13 z14 z15 z16 z17 w
  · exact Tryz.ixSz10 z0 z1 z2 z3 z4 z5 z6 z7 z8 z9 z10 z11 z12 z13 z14 z15 z16 z17 w
  · exact Tryz.ixSz11 z0 z1 z2 z3 z4 z5 z6 z7 z8 z9 z10 z11 z12 z13 z14 z15 z16 z17 w
  · exact Tryz.ixSz12 z0 z1 z2 z3 z4 z5 z6 z7 z8 z9 z10 z11 z12 z13 z14 z15 z16 z17 w
  · exact Tryz.ixSz13 z0 z1 z2 z3 z4 z5 z6 z7 z8 z9 z10 z11 z12 z13 z14 z15 z16 z17 w
  · exact Tryz.ixSz14 z0 z1 z2 z3 z4 z5 z6 z7 z8 z9 z10 z11 z12 z13 z14 z15 z16 z17 w
  · exact Tryz.ixSz15 z0 z1 z2 z3 z4 z5 z6 z7 z8 z9 z10 z11 z12 z13 z14 z15 z16 z17 w
  · exact Tryz.ixSz16 z0 z1 z2 z3 z4 z5 z6 z7 z8 z9 z10 z11 z12 z13 z14 z15 z16 z17 w
  · exact Tryz.ixSz17 z0 z1 z2 z3 z4 z5 z6 z7 z8 z9 z10 z11 z12 z13 z14 z15 z16 z17 w
theorem ints_get (zs : List Int) (i : Nat) (h : i < zs.length) : ((zs.map (Value.int .i64)).toArray)[i]? = some (.int .i64 (zs.getD i 0)) := by
  simp [List.getD_eq_getElem?_getD, List.getElem?_eq_getElem h]
theorem eqItems_ints {P : Program} {e : TypeId} (he : P.plainKey e = true) (hu : P.underlying e = some (.int .i64)) (d : Nat) (xs ys : List Int) (w : World) : ∀ is : List Nat, (∀ i ∈ is, i < xs.length ∧ i < ys.length) →
    (Op.eqItems (d + 1) e 1 (xs.map (Value.int .i64)).toArray (ys.map (Value.int .i64)).toArray is).run P w = .ok (is.all fun i => xs.getD i 0 == ys.getD i 0) w
  | [], _ => by simp [Op.eqItems]
  | i :: is, h => by
    obtain ⟨h1, h2⟩ := h i (by simp)
    have ih := eqItems_ints he hu d xs ys w is (fun j hj => h j (by simp [hj]))
    have p1 := run_part_plain w he (ints_get xs i h1)
    have p2 := run_part_plain w he (ints_get ys i h2)
    simp only [Op.eqItems, Nat.mul_one, Sem.run_bind, p1, p2, Result.andThen_ok, run_equalIn_int w d e .i64 .i64 _ _ hu, List.all_cons]
    cases hq : (xs.getD i 0 == ys.getD i 0)
    · simp [Sem.run_pure]
    · simpa using ih
set_option maxRecDepth 100000 in
theorem Tryz.equal_arr2 (xs ys : List Int) (hx : xs.length = 18) (hy : ys.length = 18) (w : World) : (Op.equalIn 10000 41 (.agg (xs.map (Value.int .i64)).toArray) (.agg (ys.map (Value.int .i64)).toArray)).run Tryz.prog w = .ok (decide (xs = ys)) w := by
  have hinfo : ∃ i, Tryz.prog.info? 3 = some i := by
    obtain ⟨i0, hi, _⟩ := info_parts Tryz.infoInt
    exact ⟨i0, hi⟩
  obtain ⟨i0, hi⟩ := hinfo
  have hc : Tryz.prog.cellsOf 3 = 1 := by kernel_rfl
  refine Eq.trans (run_equalIn_array w 9999 _ _ Tryz.underlying41 hi) ?_
  rw [hc]
  refine Eq.trans (eqItems_ints (by kernel_rfl) Tryz.underlying3 9998 xs ys w (List.range 18) (fun i hi => by have := List.mem_range.1 hi; omega)) ?_
  congr 1
  rw [Bool.eq_iff_iff, decide_eq_true_eq, List.all_eq_true]
  constructor
  · intro h
    refine list_ext_getD (hx.trans hy.symm) fun j hj => ?_
    simpa using h j (List.mem_range.2 (by omega))
  · rintro rfl i _; simp
theorem Tryz.equal_arr (zs : List Int) (h : zs.length = 18) (w : World) : (Op.equalIn 10000 41 (.agg (zs.map (Value.int .i64)).toArray) (.agg (zs.map (Value.int .i64)).toArray)).run Tryz.prog w = .ok true w := by
  rw [Tryz.equal_arr2 zs zs h h]; simp

set_option maxRecDepth 100000 in
set_option maxHeartbeats 3200000 in
theorem statsadd_lit (v : Value) (es : List Ev) (ev : Ev) (v1 v2 v3 v4 v5 v6 v7 v8 v9 v10 v11 v12 v13 v14 v15 v16 g sv : Value) (w : World) (hv : SliceEv w v es) (hnil : ∀ n c, v = .slice none n c → v = .slice none 0 0)
    (he : EvAt w ev [.int .i64 ev.mi, v1, v2, v3, v4, v5, v6, v7, v8, v9, v10, v11, v12, v13, v14, v15, v16, g, sv, .int .i64 ev.b]) :
    Calls Tryz.prog 3 #[v, .agg #[.int .i64 ev.mi, v1, v2, v3, v4, v5, v6, v7, v8, v9, v10, v11, v12, v13, v14, v15, v16, g, sv, .int .i64 ev.b]] w fun e w' => e = .returned (.bool true) ∧ Below w.heap.size w w' := by
  obtain ⟨W0, hW0⟩ : ∃ W0, W0 = w.alloc (.cells #[.int .i64 ev.mi, v1, v2, v3, v4, v5, v6, v7, v8, v9, v10, v11, v12, v13, v14, v15, v16, g, sv, .int .i64 ev.b] 27) := ⟨_, rfl⟩
  have hb0 : Below w.heap.size w W0 := by rw [hW0]; exact (Below.refl _ _).alloc (Nat.le_refl _) _
  have hs0 : W0.heap.size = w.heap.size + 1 := by rw [hW0]; simp
  have hbox : W0.heap[w.heap.size]? = some (.cells #[.int .i64 ev.mi, v1, v2, v3, v4, v5, v6, v7, v8, v9, v10, v11, v12, v13, v14, v15, v16, g, sv, .int .i64 ev.b] 27 (0, 0)) := by rw [hW0]; exact heap_alloc_new w _
  have hv' := Lib.hid (hv.below hb0)
  have he' := Lib.hid (he.below hb0)
  have hb0' := Lib.hid hb0
  have hs0' := Lib.hid hs0
  have hbox' := Lib.hid hbox
  have hW0' := Lib.hid hW0
  have hnil' := Lib.hid hnil
  clear hv he hb0 hs0 hbox hW0 hnil
  go_enter Tryz.func3, Tryz.ntmps3
  go_wp2_with (go_at_call 8; fail)
  rw [← hW0'.out]
  refine (known_any _).mono ?_
  rintro e w1 ⟨rfl, hb1⟩
  have hb1' := Lib.hid hb1
  clear hb1
  go_wp2_with (go_at_call 9; fail)
  refine (few_any v es _ (hv'.out.below hb1'.out)).mono ?_
  rintro e w1' ⟨⟨fb, rfl, hfb⟩, rfl⟩
  have hfb' := Lib.hid hfb
  clear hfb
  cases fb with
  | false =>
    go_wp2_with (go_at_call 8; fail)
    refine (known_any _).mono ?_
    rintro e w2 ⟨rfl, hb2⟩
    have hb2' := Lib.hid (hb0'.out.trans ((hb1'.out.trans (hb2.mono hb1'.out.size)).mono hb0'.out.size))
    clear hb2
    go_wp2_with fail
    go_ret
    exact ⟨rfl, hb2'.out⟩
  | true =>
    have h20 : es.length ≤ 20 := hfb'.out rfl
    have hrow : w1.rangeAt w.heap.size 0 [.int .i64 ev.mi, v1, v2, v3, v4, v5, v6, v7, v8, v9, v10, v11, v12, v13, v14, v15, v16, g, sv, .int .i64 ev.b] := fun j u hj => by
      rw [cell_of_row _ _ _ _ _ _ ((hb1'.out.block _ (by rw [hs0'.out]; omega)).trans hbox'.out), Nat.zero_add]
      simpa using hj
    have hrow' := Lib.hid hrow
    clear hrow
    go_wp2_with (refine wpList_load_guard rfl 27 _ rfl w.heap.size 0 rfl _ _ hrow'.out Tryz.underlying27 rfl rfl ?_)
    go_at_call 9
    obtain ⟨W2, hW2⟩ : ∃ W2, W2 = w1.alloc (.cells #[.int .i64 ev.mi, v1, v2, v3, v4, v5, v6, v7, v8, v9, v10, v11, v12, v13, v14, v15, v16, g, sv, .int .i64 ev.b] 27) := ⟨_, rfl⟩
    have hb2 : Below w1.heap.size w1 W2 := by rw [hW2]; exact (Below.refl _ _).alloc (Nat.le_refl _) _
    have hone := SliceEv.one (c := 1) ((he'.out.below hb1'.out).below hb2) (by rw [hW2]; exact heap_alloc_new w1 _) (by decide)
    rw [← hW2]
    refine (few_any _ [ev] _ hone).mono ?_
    rintro e w2' ⟨⟨fb, rfl, hfb⟩, rfl⟩
    have hb2' := Lib.hid (hb1'.out.trans (hb2.mono hb1'.out.size))
    clear hfb hone hb2
    have hW2' := Lib.hid hW2
    clear hW2
    cases fb with
    | false =>
      go_wp2_with (go_at_call 8; fail)
      refine (known_any _).mono ?_
      rintro e w2 ⟨rfl, hb3⟩
      have hb3' := Lib.hid (hb0'.out.trans ((hb2'.out.trans (hb3.mono hb2'.out.size)).mono hb0'.out.size))
      clear hb3
      go_wp2_with fail
      go_ret
      exact ⟨rfl, hb3'.out⟩
    | true =>
      have hevs := (hv'.out.below hb2'.out)
      obtain ⟨ys, hsrc, hone, hcs⟩ := hevs.src hnil'.out
      have heW2 := he'.out.below hb2'.out
      have hltW : w.heap.size < W2.heap.size := by have := hb2'.out.size; rw [hs0'.out] at this; omega
      have hr2 : W2.rangeAt w.heap.size 0 [.int .i64 ev.mi, v1, v2, v3, v4, v5, v6, v7, v8, v9, v10, v11, v12, v13, v14, v15, v16, g, sv, .int .i64 ev.b] := fun j u hj => by
        rw [cell_of_row _ _ _ _ _ _ ((hb2'.out.block _ (by rw [hs0'.out]; omega)).trans hbox'.out), Nat.zero_add]
        simpa using hj
      have hreg := Lib.hid (region3 v es ev ys w.heap.size (.int .i64 ev.mi) v1 v2 v3 v4 v5 v6 v7 v8 v9 v10 v11 v12 v13 v14 v15 v16 g sv (.int .i64 ev.b) W2)
      have hsrc' := Lib.hid hsrc
      have hone' := Lib.hid hone
      have hcs' := Lib.hid hcs
      have heW2' := Lib.hid heW2
      have hr2' := Lib.hid hr2
      have hltW' := Lib.hid hltW
      clear hsrc hone hcs heW2 hr2 hltW hevs
      go_wp2_with fail
      refine wp_region_noPanic ?_
      refine hreg.out _ _ _ _ _ _ _ _ _ _ _ _ _ _ _ _ _ _ _ _ _ _ _ _ _ _ _ _ _ _ _ _ _ _ _ _ _ _ _ _ _ _ _ _ _ _ _ _ _ _ _ _ _ _ _ _ _ _ _ _ _ _ _ _ _ _ _ _ _ _ _ _ _ h20 (fun _ _ _ _ h => h) hsrc'.out hone'.out hcs'.out heW2'.out hr2'.out hltW'.out ?_
      intro wD w5 ov r25 r26 r27 r28 r29 r30 r31 r32 r33 r34 r35 hbD hB
      refine NoPanic.normal ?_
      have hB' := Lib.hid hB
      have hbD' := Lib.hid hbD
      clear hB hbD hreg
      obtain ⟨AS, hAS⟩ : ∃ AS, AS = es ++ [ev] := ⟨_, rfl⟩
      have hASl : AS.length ≤ 21 := by rw [hAS]; simp; omega
      rw [← hAS] at hB'
      have hAS' := Lib.hid hAS
      clear hAS
      have hbnd := Lib.hid ((addsL_bnd AS [] 0 bnd_nil).bnd (by omega))
      have hokl := okEvs_len AS
      obtain ⟨x, hx⟩ : ∃ x, x = (ofM (okEvs AS) 0 ⟨#[]⟩ 0 80000).1 := ⟨_, rfl⟩
      obtain ⟨y, hy⟩ : ∃ x, x = (ofM (okEvs AS) 0 ⟨#[]⟩ 0 80000).2 := ⟨_, rfl⟩
      have hxt : Hid (sumBy isWhole (addsL [] AS) = (x, y)) := by show _ = _; rw [hx, hy]; exact total_eq AS
      have hxn : Hid (x = (okEvs AS).length) := by show _ = _; rw [hx]; exact ofM_count _ (okEvs AS) rfl okEvs_err
      have hx' := Lib.hid hx
      have hy' := Lib.hid hy
      clear hx hy
      go_wp2_with (go_at_call 11; fail)
      refine (total_any (wD.heap.size + 1) wD.heap.size (addsL [] AS) (addsZ noSizes AS) _ hB'.out.st hbnd.out).mono ?_
      rintro e w6 ⟨rfl, hb6⟩
      rw [hxt.out]
      have hB6' := Lib.hid (hB'.out.below hb6)
      clear hb6
      have hok6 := Lib.hid (hB6'.out.own.slice (by omega) hB6'.out.bel)
      go_wp2_with (go_at_call 12; fail)
      refine (mof_any ov (okEvs AS) 0 ⟨#[]⟩ 0 80000 _ hok6.out okEvs_err (by omega)).mono ?_
      rintro e w7 ⟨rfl, hb7⟩
      rw [← hx'.out, ← hy'.out]
      have hB7' := Lib.hid (hB6'.out.below hb7)
      clear hb7
      have hec := Tryz.equal_cnt x y
      go_wp2_with (go_at_call 14; fail)
      refine (days_any (wD.heap.size + 1) wD.heap.size (addsL [] AS) (addsZ noSizes AS) _ hB7'.out.st (by have := length_addsL (es := AS) (L := []); simp at this; omega)).mono ?_
      rintro e w8 ⟨dv, rfl, hdv, hb8⟩
      rw [days_eq] at hdv
      have hB8' := Lib.hid (hB7'.out.below hb8)
      have hdv' := Lib.hid hdv
      clear hb8 hdv
      have hok8 := Lib.hid (hB8'.out.own.slice (by omega) hB8'.out.bel)
      go_wp2_with (go_at_call 15; fail)
      refine (mdays_any ov (okEvs AS) _ hok8.out okEvs_err (by omega)).mono ?_
      rintro e w9 ⟨du, rfl, hdu, hb9⟩
      have hB9' := Lib.hid (hB8'.out.below hb9)
      have hdu' := Lib.hid hdu
      have hdv9 := Lib.hid (hdv'.out.below hb9)
      clear hb9 hdu
      go_wp2_with (go_at_call 13; fail)
      refine (numbers_any dv du _ _ _ hdv9.out hdu'.out).mono ?_
      rintro e w10 ⟨rfl, hb10⟩
      rw [decide_eq_true (rfl : daysM (okEvs AS) = daysM (okEvs AS))]
      have hB10' := Lib.hid (hB9'.out.below hb10)
      clear hb10
      obtain ⟨zs, hzs⟩ : ∃ zs, zs = szM (okEvs AS) := ⟨_, rfl⟩
      obtain ⟨C, hC⟩ : ∃ C, C = (zs.map (Value.int .i64)).toArray := ⟨_, rfl⟩
      have hzl : zs.length = 18 := by rw [hzs]; exact szM_len _
      have hzsum : Hid (zs.sum = x) := by show _ = _; rw [hxn.out, hzs]; exact sum_szM _ _ rfl okEvs_err
      have hzN : Hid (SzN zs 2100) := by
        have h1 := addsZ_bnd AS noSizes 0 sz_none (by omega)
        rw [addsZ_szM, ← hzs] at h1
        exact fun z hz => by have := h1 z hz; omega
      have heq := Tryz.equal_arr zs hzl
      have hidx := Tryz.index_arr zs hzl
      rw [← hC] at heq
      rw [← hC] at hidx
      have hzs' := Lib.hid hzs
      have hC' := Lib.hid hC
      have hzl' := Lib.hid hzl
      have hidx' := Lib.hid hidx
      clear hzs hC hzl hidx
      go_wp2_with (go_at_call 16; fail)
      refine (sizes_any (wD.heap.size + 1) wD.heap.size (addsL [] AS) (addsZ noSizes AS) _ hB10'.out.st).mono ?_
      rintro e w11 ⟨rfl, hb11⟩
      rw [addsZ_szM, ← hzs'.out, ← hC'.out]
      have hB11' := Lib.hid (hB10'.out.below hb11)
      clear hb11
      have hok11 := Lib.hid (hB11'.out.own.slice (by omega) hB11'.out.bel)
      go_wp2_with (go_at_call 17; fail)
      refine (sizesM_any ov (okEvs AS) _ hok11.out okEvs_err (by omega)).mono ?_
      rintro e w12 ⟨rfl, hb12⟩
      rw [← hzs'.out, ← hC'.out]
      have hB12' := Lib.hid (hB11'.out.below hb12)
      clear hb12
      go_wp2_with (go_at_call 16; fail)
      refine (sizes_any (wD.heap.size + 1) wD.heap.size (addsL [] AS) (addsZ noSizes AS) _ hB12'.out.st).mono ?_
      rintro e w13 ⟨rfl, hb13⟩
      rw [addsZ_szM, ← hzs'.out, ← hC'.out]
      have hB13' := Lib.hid (hB12'.out.below hb13)
      clear hb13 heq
      have h18 : zs.length = 18 := hzl'.out
      go_wp2_with fail
      go_loop [8, 10, 62] (fun sm _ i => ∃ k : Nat, k ≤ 18 ∧ i = .int .i64 k ∧ sm = .int .i64 (zs.take k).sum ∧ 0 ≤ (zs.take k).sum ∧ (zs.take k).sum ≤ 2100 * k) (fun _ _ i => 18 - (intOf i).toNat)
      case atStart => exact ⟨0, by omega, rfl, rfl, by simp, by simp⟩
      case round =>
        obtain ⟨k, hk0, rfl, rfl, hs0, hs1⟩ := hrel
        by_cases hk : k < 18
        · have hix := hidx'.out k hk
          obtain ⟨z, hz⟩ : ∃ z, z = zs.getD k 0 := ⟨_, rfl⟩
          rw [← hz] at hix
          have hzb : 0 ≤ z ∧ z ≤ 2100 := by
            have hm : z ∈ zs := by rw [hz, List.getD_eq_getElem?_getD, List.getElem?_eq_getElem (by omega), Option.getD_some]; exact List.getElem_mem _
            exact hzN.out z hm
          have htk : Hid ((zs.take (k + 1)).sum = (zs.take k).sum + z) := by show _ = _; rw [hz, take_getD (d := 0) (by omega), List.sum_append]; simp
          obtain ⟨s0, hs⟩ : ∃ s, s = (zs.take k).sum := ⟨_, rfl⟩
          rw [← hs] at hs0 hs1 htk
          rw [← hs]
          obtain ⟨hzb1, hzb2⟩ := hzb
          clear hz hs h18
          go_wp2_with fail
          exact ⟨⟨k + 1, by omega, by go_num, by rw [htk.out], by rw [htk.out]; omega, by rw [htk.out]; omega⟩, by simp [intOf]; omega⟩
        · obtain rfl : k = 18 := by omega
          have hfull : (zs.take 18).sum = x := by rw [List.take_of_length_le (by omega)]; exact hzsum.out
          rw [hfull]
          have hf0 := Tryz.fld0 x y
          clear hs0 hs1 hfull h18
          go_wp2_with (go_at_call 11; fail)
          refine (total_any (wD.heap.size + 1) wD.heap.size (addsL [] AS) (addsZ noSizes AS) _ hB13'.out.st hbnd.out).mono ?_
          rintro e w14 ⟨rfl, hb14⟩
          rw [hxt.out]
          have hB14' := Lib.hid (hB13'.out.below hb14)
          clear hb14
          go_wp2_with fail
          go_ret
          refine ⟨ret_bool (by simp), ?_⟩
          have e1 := hbD'.out.trans (hB14'.out.bel.mono hbD'.out.size)
          have e2 := hb2'.out.trans (e1.mono hb2'.out.size)
          exact hb0'.out.trans (e2.mono hb0'.out.size)
end Go.Proofs.YtlemadbmlnjhpaaGreatDoor
