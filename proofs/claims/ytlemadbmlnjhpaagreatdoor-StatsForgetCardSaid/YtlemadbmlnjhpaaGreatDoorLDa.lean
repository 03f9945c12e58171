/- StatsAdd: the drawn statement that appends the event and builds. -/
import Derived.Test.YtlemadbmlnjhpaaGreatDoorLC
namespace Go.Proofs.YtlemadbmlnjhpaaGreatDoor
open Go Go.RowKit Go.Proofs
set_option linter.unusedSimpArgs false
set_option linter.unusedVariables false

theorem okEvs_err {es : List Ev} : ∀ e ∈ okEvs es, e.err = 0 := fun e he => by
  have := (List.mem_filter.1 he).2
  simpa using this
theorem okEvs_len (es : List Ev) : (okEvs es).length ≤ es.length := List.length_filter_le _ _
theorem Tryz.equal_cnt (x y : Int) (w : World) : (Op.equal 34 (.agg #[.int .i64 x, .int .i64 y]) (.agg #[.int .i64 x, .int .i64 y])).run Tryz.prog w = .ok true w := by
  simp [Op.equal, Op.maxDepth, go_sem]
theorem SliceEv.one {w : World} {cs : List Value} {ev : Ev} {c b : Nat} (h : EvAt w ev cs) (hb : w.heap[b]? = some (.cells cs.toArray 27 (0, 0))) (hc : c ≤ 9223372036854775807) : SliceEv w (.slice (some ⟨b, 0, none⟩) 1 c) [ev] := by
  refine .inr ⟨b, 0, c, rfl, ⟨hc, by simp⟩, (Array.getElem?_eq_some_iff.1 hb).1, fun k e hk => ?_⟩
  obtain ⟨rfl, rfl⟩ : k = 0 ∧ e = ev := by
    rcases k with _ | k
    · simp at hk; exact ⟨rfl, hk.symm⟩
    · simp at hk
  refine ⟨cs, fun j v hj => ?_, h⟩
  rw [cell_of_row _ _ _ _ _ _ hb]
  simpa using hj

theorem SliceEv.src {w : World} {v : Value} {es : List Ev} (h : SliceEv w v es) (hnil : ∀ n c, v = .slice none n c → v = .slice none 0 0) :
    ∃ ys, SrcV w 20 v es.length ys ∧ (∀ u ∈ ys, u.oneCell' = true) ∧ ∀ k e, es[k]? = some e → ∃ cs, (∀ j u, cs[j]? = some u → ys[k * 20 + j]? = some u) ∧ EvAt w e cs := by
  rcases h with ⟨A, c, rfl, rfl⟩ | ⟨bb, o, c, rfl, g2, g3, g4⟩
  · exact ⟨[], ⟨rfl, A, c, rfl, fun hA => by subst hA; exact hnil _ _ rfl, fun j y hj => by simp at hj⟩, fun u hu => by simp at hu, fun k e hk => by simp at hk⟩
  · have hcell : ∀ t, t < es.length * 20 → ∃ u, w.cell? ⟨bb, o + t, none⟩ = some u ∧ u.oneCell' = true := fun t ht => by
      have hk : t / 20 < es.length := by omega
      obtain ⟨cs, hr, he⟩ := g4 (t / 20) _ (List.getElem?_eq_getElem hk)
      have hl := he.len
      have hj : cs[t % 20]? = some (cs[t % 20]'(by omega)) := List.getElem?_eq_getElem (by omega)
      have := hr _ _ hj
      rw [show o + t / 20 * 20 + t % 20 = o + t by omega] at this
      exact ⟨_, this, he.one _ (List.getElem_mem _)⟩
    let ys := (List.range (es.length * 20)).map fun t => (w.cell? ⟨bb, o + t, none⟩).getD undef
    have hys : ∀ t, t < es.length * 20 → ys[t]? = some ((w.cell? ⟨bb, o + t, none⟩).getD undef) := fun t ht => by simp [ys, ht]
    refine ⟨ys, ⟨by simp [ys], some ⟨bb, o, none⟩, c, rfl, fun h => (by cases h), fun j y hj => ⟨bb, o, rfl, ?_⟩⟩, fun u hu => ?_, fun k e hk => ?_⟩
    · have hjl : j < es.length * 20 := by have := (List.getElem?_eq_some_iff.1 hj).1; simpa [ys] using this
      obtain ⟨u, hu, _⟩ := hcell j hjl
      rw [hys j hjl, hu] at hj
      rw [hu]; simpa using hj
    · obtain ⟨t, ht, rfl⟩ := List.getElem_of_mem hu
      have htl : t < es.length * 20 := by simpa [ys] using ht
      obtain ⟨u, hu, h1⟩ := hcell t htl
      have := hys t htl
      rw [List.getElem?_eq_getElem ht, hu] at this
      have := Option.some.inj this
      rw [this]; exact h1
    · obtain ⟨cs, hr, he⟩ := g4 k e hk
      refine ⟨cs, fun j u hj => ?_, he⟩
      have hkl := (List.getElem?_eq_some_iff.1 hk).1
      have hjl := (List.getElem?_eq_some_iff.1 hj).1
      have hl := he.len
      rw [hys _ (by omega), ← Nat.add_assoc, hr j u hj]; rfl
theorem keepS {W2 W' : World} {b : Nat} {cs : List Value} (hr : W2.rangeAt b 0 cs) (hlt : b < W2.heap.size) (hb : Below W2.heap.size W2 W') : Below W2.heap.size W2 W' ∧ W'.rangeAt b 0 cs :=
  ⟨hb, fun j u hj => (hb.cell (p := ⟨b, _, none⟩) hlt).trans (hr j u hj)⟩
theorem keepS20 {W2 W' : World} {b : Nat} {x0 v1 v2 v3 v4 v5 v6 v7 v8 v9 v10 v11 v12 v13 v14 v15 v16 g sv x1 : Value} (hr : W2.rangeAt b 0 [x0, v1, v2, v3, v4, v5, v6, v7, v8, v9, v10, v11, v12, v13, v14, v15, v16, g, sv, x1]) (hlt : b < W2.heap.size) (hb : Below W2.heap.size W2 W') :
    Below W2.heap.size W2 W' ∧ W'.cell? ⟨b, 0, none⟩ = some x0 ∧ W'.cell? ⟨b, 1, none⟩ = some v1 ∧ W'.cell? ⟨b, 2, none⟩ = some v2 ∧ W'.cell? ⟨b, 3, none⟩ = some v3 ∧ W'.cell? ⟨b, 4, none⟩ = some v4 ∧ W'.cell? ⟨b, 5, none⟩ = some v5 ∧ W'.cell? ⟨b, 6, none⟩ = some v6 ∧ W'.cell? ⟨b, 7, none⟩ = some v7 ∧ W'.cell? ⟨b, 8, none⟩ = some v8 ∧ W'.cell? ⟨b, 9, none⟩ = some v9 ∧ W'.cell? ⟨b, 10, none⟩ = some v10 ∧ W'.cell? ⟨b, 11, none⟩ = some v11 ∧ W'.cell? ⟨b, 12, none⟩ = some v12 ∧ W'.cell? ⟨b, 13, none⟩ = some v13 ∧ W'.cell? ⟨b, 14, none⟩ = some v14 ∧ W'.cell? ⟨b, 15, none⟩ = some v15 ∧ W'.cell? ⟨b, 16, none⟩ = some v16 ∧ W'.cell? ⟨b, 17, none⟩ = some g ∧ W'.cell? ⟨b, 18, none⟩ = some sv ∧ W'.cell? ⟨b, 19, none⟩ = some x1 := by
  have h : ∀ j u, [x0, v1, v2, v3, v4, v5, v6, v7, v8, v9, v10, v11, v12, v13, v14, v15, v16, g, sv, x1][j]? = some u → W'.cell? ⟨b, j, none⟩ = some u := fun j u hj => by
    have := (keepS hr hlt hb).2 j u hj
    rwa [Nat.zero_add] at this
  exact ⟨hb, h 0 _ rfl, h 1 _ rfl, h 2 _ rfl, h 3 _ rfl, h 4 _ rfl, h 5 _ rfl, h 6 _ rfl, h 7 _ rfl, h 8 _ rfl, h 9 _ rfl, h 10 _ rfl, h 11 _ rfl, h 12 _ rfl, h 13 _ rfl, h 14 _ rfl, h 15 _ rfl, h 16 _ rfl, h 17 _ rfl, h 18 _ rfl, h 19 _ rfl⟩
theorem ev_append {W2 wD : World} {vD : Value} {ys cs : List Value} {es : List Ev} {ev : Ev} (ho : wD.ownsRow W2.heap.size 27 20 vD (0 + es.length + 1) ([] ++ ys ++ cs)) (hb : Below W2.heap.size W2 wD) (hl : ys.length = es.length * 20)
    (h2 : ∀ k e, es[k]? = some e → ∃ cs, (∀ j u, cs[j]? = some u → ys[k * 20 + j]? = some u) ∧ EvAt W2 e cs) (he : EvAt W2 ev cs) (hlen : es.length ≤ 1000) : SliceEv wD vD (es ++ [ev]) := by
  have h1 : OwnEv W2 wD W2.heap.size vD (es ++ [ev]) := OwnEv.append hl (by simpa using ho) h2 he
  exact h1.slice (by simp; omega) hb
def ops3 : Array Oper := #[{ dst := some 26, op := Op.buildSlice 22 0 #[], type := 22, pos := "law.go:84", after := #[], guard := none }, { dst := some 27, op := Op.move (Operand.tmp 0), type := 22, pos := "law.go:84", after := #[], guard := none }, { dst := some 28, op := Op.call { callee := Callee.builtin Builtin.append, args := #[Operand.tmp 26, Operand.tmp 27], argTypes := #[22, 22] }, type := 22, pos := "law.go:84", after := #[{ on := 0, ground := Ground.data }, { on := 1, ground := Ground.data }], guard := none }, { dst := some 29, op := Op.load 27 (Operand.tmp 3), type := 27, pos := "law.go:84", after := #[], guard := none }, { dst := some 30, op := Op.buildSlice 22 1 #[(0, Operand.tmp 29)], type := 22, pos := "law.go:84", after := #[{ on := 3, ground := Ground.data }], guard := none }, { dst := some 31, op := Op.call { callee := Callee.builtin Builtin.append, args := #[Operand.tmp 28, Operand.tmp 30], argTypes := #[22, 22] }, type := 22, pos := "law.go:84", after := #[{ on := 2, ground := Ground.data }, { on := 4, ground := Ground.data }, { on := 2, ground := Ground.chain }], guard := none }, { dst := some 32, op := Op.call { callee := Callee.value (Operand.func 10), args := #[Operand.tmp 31], argTypes := #[22] }, type := 31, pos := "law.go:84", after := #[{ on := 5, ground := Ground.data }, { on := 5, ground := Ground.chain }], guard := none }, { dst := some 25, op := Op.move (Operand.tmp 32), type := 31, pos := "law.go:84", after := #[{ on := 6, ground := Ground.data }], guard := none }, { dst := some 33, op := Op.extract (Operand.tmp 25) 0, type := 30, pos := "law.go:84", after := #[{ on := 7, ground := Ground.data }], guard := none }, { dst := some 34, op := Op.extract (Operand.tmp 25) 1, type := 22, pos := "law.go:84", after := #[{ on := 7, ground := Ground.data }, { on := 11, ground := Ground.gcOnly Departure.lateStores }], guard := none }, { dst := some 35, op := Op.extract (Operand.tmp 25) 2, type := 4, pos := "law.go:84", after := #[{ on := 7, ground := Ground.data }, { on := 12, ground := Ground.gcOnly Departure.lateStores }], guard := none }, { dst := some 5, op := Op.assign (Operand.tmp 33), type := 30, pos := "law.go:84", after := #[{ on := 8, ground := Ground.data }, { on := 6, ground := Ground.chain }, { on := 0, ground := Ground.phase }, { on := 1, ground := Ground.phase }, { on := 2, ground := Ground.phase }, { on := 3, ground := Ground.phase }, { on := 4, ground := Ground.phase }, { on := 5, ground := Ground.phase }, { on := 6, ground := Ground.phase }, { on := 7, ground := Ground.phase }, { on := 8, ground := Ground.phase }, { on := 9, ground := Ground.textOnly Departure.lateStores }, { on := 10, ground := Ground.textOnly Departure.lateStores }], guard := none }, { dst := some 6, op := Op.assign (Operand.tmp 34), type := 22, pos := "law.go:84", after := #[{ on := 9, ground := Ground.data }, { on := 11, ground := Ground.chain }, { on := 0, ground := Ground.phase }, { on := 1, ground := Ground.phase }, { on := 2, ground := Ground.phase }, { on := 3, ground := Ground.phase }, { on := 4, ground := Ground.phase }, { on := 5, ground := Ground.phase }, { on := 6, ground := Ground.phase }, { on := 7, ground := Ground.phase }, { on := 8, ground := Ground.phase }, { on := 9, ground := Ground.phase }, { on := 10, ground := Ground.textOnly Departure.lateStores }, { on := 11, ground := Ground.phase }], guard := none }, { dst := some 7, op := Op.assign (Operand.tmp 35), type := 4, pos := "law.go:84", after := #[{ on := 10, ground := Ground.data }, { on := 12, ground := Ground.chain }, { on := 0, ground := Ground.phase }, { on := 1, ground := Ground.phase }, { on := 2, ground := Ground.phase }, { on := 3, ground := Ground.phase }, { on := 4, ground := Ground.phase }, { on := 5, ground := Ground.phase }, { on := 6, ground := Ground.phase }, { on := 7, ground := Ground.phase }, { on := 8, ground := Ground.phase }, { on := 9, ground := Ground.phase }, { on := 10, ground := Ground.phase }, { on := 11, ground := Ground.phase }, { on := 12, ground := Ground.phase }], guard := none }]
set_option maxRecDepth 100000 in
set_option maxHeartbeats 3200000 in
theorem r3_tail (v : Value) (es : List Ev) (ev : Ev) (bx : Nat) (W2 wD : World) (vD : Value) (t1 t2 t4 t5 t6 t7 t8 t9 t10 t11 t12 t13 t14 t15 t16 t17 t18 t19 t20 t21 t22 t23 t24 t25 t26 t27 t28 t29 t30 t31 t32 t33 t34 t35 t36 t37 t38 t39 t40 t41 t42 t43 t44 t45 t46 t47 t48 t49 t50 t51 t52 t53 t54 t55 t56 t57 t58 t59 t60 t61 t62 t63 t64 t65 t66 t67 t68 t69 t70 t71 t72 t73 r26 r27 r28 r29 r30 : Value) (Q : Exit → Act → World → Prop) (h20 : es.length ≤ 20)
    (hP : ∀ c a a' w, Q (.panic c) a w → Q (.panic c) a' w) (hHeld : Below W2.heap.size W2 wD) (hsl : SliceEv wD vD (es ++ [ev]))
    (hQ : ∀ w5 ov r25 r26 r27 r28 r29 r30 r31 r32 r33 r34 r35, BuildAt wD w5 (es ++ [ev]) ov → Q .normal { tmps := #[v, t1, t2, .pointer (some ⟨bx, 0, none⟩), t4, .pointer (some ⟨wD.heap.size + 1, 0, none⟩), ov, .bool true, t8, t9, t10, t11, t12, t13, t14, t15, t16, t17, t18, t19, t20, t21, t22, t23, t24, r25, r26, r27, r28, r29, r30, r31, r32, r33, r34, r35, t36, t37, t38, t39, t40, t41, t42, t43, t44, t45, t46, t47, t48, t49, t50, t51, t52, t53, t54, t55, t56, t57, t58, t59, t60, t61, t62, t63, t64, t65, t66, t67, t68, t69, t70, t71, t72, t73], defers := [] } w5) :
    wpAnyH Tryz.prog .any ops3 Q (fun W' => Below W2.heap.size W2 W') 8 #[true, true, true, true, true, true, false, false, false, false, false, false, false, false] { tmps := #[v, t1, t2, .pointer (some ⟨bx, 0, none⟩), t4, t5, t6, t7, t8, t9, t10, t11, t12, t13, t14, t15, t16, t17, t18, t19, t20, t21, t22, t23, t24, t25, r26, r27, r28, r29, r30, vD, t32, t33, t34, t35, t36, t37, t38, t39, t40, t41, t42, t43, t44, t45, t46, t47, t48, t49, t50, t51, t52, t53, t54, t55, t56, t57, t58, t59, t60, t61, t62, t63, t64, t65, t66, t67, t68, t69, t70, t71, t72, t73], defers := [] } wD := by
  refine wpAnyH_ready (rs := [6]) (by kernel_rfl) (by simp) ?_
  refine AllReadyH.cons (o := ⟨some 32, Op.call { callee := Callee.value (Operand.func 10), args := #[Operand.tmp 31], argTypes := #[22] }, _, _, _, _⟩) rfl (fun K hK => ?_) AllReadyH.nil
  go_simp
  go_at_call 10
  refine (build_any vD (es ++ [ev]) _ hsl (by simp; omega)).mono ?_
  rintro e w5 ⟨ov, rfl, hB⟩
  have hB' := Lib.hid hB
  clear hB
  refine hK.out _ _ (hHeld.trans (hB'.out.bel.mono hHeld.size)) (fun hHeld => ?_)
  dsimp only at hQ
  refine wpAnyH_take (i := 7) (oi := { dst := some 25, op := Op.move (Operand.tmp 32), type := 31, pos := "law.go:84", after := #[{ on := 6, ground := Ground.data }], guard := none }) (v := (.tuple #[.pointer (some ⟨wD.heap.size + 1, 0, none⟩), ov, .bool true])) rfl (by kernel_rfl) (by kernel_rfl) (by kernel_rfl) (fun _ _ _ h => hP _ _ _ _ h) (Or.inl ⟨by rfl, fun w hSw => by go_simp⟩) hHeld ?_
  try simp only [Act.put, List.setIfInBounds_toArray, List.set_cons_zero, List.set_cons_succ]
  refine wpAnyH_take (i := 8) (oi := { dst := some 33, op := Op.extract (Operand.tmp 25) 0, type := 30, pos := "law.go:84", after := #[{ on := 7, ground := Ground.data }], guard := none }) (v := (.pointer (some ⟨wD.heap.size + 1, 0, none⟩))) rfl (by kernel_rfl) (by kernel_rfl) (by kernel_rfl) (fun _ _ _ h => hP _ _ _ _ h) (Or.inl ⟨by rfl, fun w hSw => by go_simp⟩) hHeld ?_
  try simp only [Act.put, List.setIfInBounds_toArray, List.set_cons_zero, List.set_cons_succ]
  refine wpAnyH_take (i := 9) (oi := { dst := some 34, op := Op.extract (Operand.tmp 25) 1, type := 22, pos := "law.go:84", after := #[{ on := 7, ground := Ground.data }, { on := 11, ground := Ground.gcOnly Departure.lateStores }], guard := none }) (v := ov) rfl (by kernel_rfl) (by kernel_rfl) (by kernel_rfl) (fun _ _ _ h => hP _ _ _ _ h) (Or.inl ⟨by rfl, fun w hSw => by go_simp⟩) hHeld ?_
  try simp only [Act.put, List.setIfInBounds_toArray, List.set_cons_zero, List.set_cons_succ]
  refine wpAnyH_take (i := 10) (oi := { dst := some 35, op := Op.extract (Operand.tmp 25) 2, type := 4, pos := "law.go:84", after := #[{ on := 7, ground := Ground.data }, { on := 12, ground := Ground.gcOnly Departure.lateStores }], guard := none }) (v := (.bool true)) rfl (by kernel_rfl) (by kernel_rfl) (by kernel_rfl) (fun _ _ _ h => hP _ _ _ _ h) (Or.inl ⟨by rfl, fun w hSw => by go_simp⟩) hHeld ?_
  try simp only [Act.put, List.setIfInBounds_toArray, List.set_cons_zero, List.set_cons_succ]
  refine wpAnyH_take (i := 11) (oi := { dst := some 5, op := Op.assign (Operand.tmp 33), type := 30, pos := "law.go:84", after := #[{ on := 8, ground := Ground.data }, { on := 6, ground := Ground.chain }, { on := 0, ground := Ground.phase }, { on := 1, ground := Ground.phase }, { on := 2, ground := Ground.phase }, { on := 3, ground := Ground.phase }, { on := 4, ground := Ground.phase }, { on := 5, ground := Ground.phase }, { on := 6, ground := Ground.phase }, { on := 7, ground := Ground.phase }, { on := 8, ground := Ground.phase }, { on := 9, ground := Ground.textOnly Departure.lateStores }, { on := 10, ground := Ground.textOnly Departure.lateStores }], guard := none }) (v := (.pointer (some ⟨wD.heap.size + 1, 0, none⟩))) rfl (by kernel_rfl) (by kernel_rfl) (by kernel_rfl) (fun _ _ _ h => hP _ _ _ _ h) (Or.inl ⟨by rfl, fun w hSw => by go_simp⟩) hHeld ?_
  try simp only [Act.put, List.setIfInBounds_toArray, List.set_cons_zero, List.set_cons_succ]
  refine wpAnyH_take (i := 12) (oi := { dst := some 6, op := Op.assign (Operand.tmp 34), type := 22, pos := "law.go:84", after := #[{ on := 9, ground := Ground.data }, { on := 11, ground := Ground.chain }, { on := 0, ground := Ground.phase }, { on := 1, ground := Ground.phase }, { on := 2, ground := Ground.phase }, { on := 3, ground := Ground.phase }, { on := 4, ground := Ground.phase }, { on := 5, ground := Ground.phase }, { on := 6, ground := Ground.phase }, { on := 7, ground := Ground.phase }, { on := 8, ground := Ground.phase }, { on := 9, ground := Ground.phase }, { on := 10, ground := Ground.textOnly Departure.lateStores }, { on := 11, ground := Ground.phase }], guard := none }) (v := ov) rfl (by kernel_rfl) (by kernel_rfl) (by kernel_rfl) (fun _ _ _ h => hP _ _ _ _ h) (Or.inl ⟨by rfl, fun w hSw => by go_simp⟩) hHeld ?_
  try simp only [Act.put, List.setIfInBounds_toArray, List.set_cons_zero, List.set_cons_succ]
  refine wpAnyH_take (i := 13) (oi := { dst := some 7, op := Op.assign (Operand.tmp 35), type := 4, pos := "law.go:84", after := #[{ on := 10, ground := Ground.data }, { on := 12, ground := Ground.chain }, { on := 0, ground := Ground.phase }, { on := 1, ground := Ground.phase }, { on := 2, ground := Ground.phase }, { on := 3, ground := Ground.phase }, { on := 4, ground := Ground.phase }, { on := 5, ground := Ground.phase }, { on := 6, ground := Ground.phase }, { on := 7, ground := Ground.phase }, { on := 8, ground := Ground.phase }, { on := 9, ground := Ground.phase }, { on := 10, ground := Ground.phase }, { on := 11, ground := Ground.phase }, { on := 12, ground := Ground.phase }], guard := none }) (v := (.bool true)) rfl (by kernel_rfl) (by kernel_rfl) (by kernel_rfl) (fun _ _ _ h => hP _ _ _ _ h) (Or.inl ⟨by rfl, fun w hSw => by go_simp⟩) hHeld ?_
  try simp only [Act.put, List.setIfInBounds_toArray, List.set_cons_zero, List.set_cons_succ]
  refine wpAnyH_done (by kernel_rfl) ?_ _
  exact hQ _ _ _ _ _ _ _ _ _ _ _ _ _ hB'.out
set_option maxRecDepth 100000 in
set_option maxHeartbeats 3200000 in
theorem region3 (v : Value) (es : List Ev) (ev : Ev) (ys : List Value) (bx : Nat) (x0 v1 v2 v3 v4 v5 v6 v7 v8 v9 v10 v11 v12 v13 v14 v15 v16 g sv x1 : Value) (W2 : World) (t1 t2 t4 t5 t6 t7 t8 t9 t10 t11 t12 t13 t14 t15 t16 t17 t18 t19 t20 t21 t22 t23 t24 t25 t26 t27 t28 t29 t30 t31 t32 t33 t34 t35 t36 t37 t38 t39 t40 t41 t42 t43 t44 t45 t46 t47 t48 t49 t50 t51 t52 t53 t54 t55 t56 t57 t58 t59 t60 t61 t62 t63 t64 t65 t66 t67 t68 t69 t70 t71 t72 t73 : Value) (Q : Exit → Act → World → Prop) (h20 : es.length ≤ 20) (hP : ∀ c a a' w, Q (.panic c) a w → Q (.panic c) a' w)
    (hsrc : SrcV W2 20 v es.length ys) (hone : ∀ u ∈ ys, u.oneCell' = true) (hcs : ∀ k e, es[k]? = some e → ∃ cs, (∀ j u, cs[j]? = some u → ys[k * 20 + j]? = some u) ∧ EvAt W2 e cs)
    (heW2 : EvAt W2 ev [x0, v1, v2, v3, v4, v5, v6, v7, v8, v9, v10, v11, v12, v13, v14, v15, v16, g, sv, x1]) (hr2 : W2.rangeAt bx 0 [x0, v1, v2, v3, v4, v5, v6, v7, v8, v9, v10, v11, v12, v13, v14, v15, v16, g, sv, x1]) (hltW : bx < W2.heap.size)
    (hQ : ∀ wD w5 ov r25 r26 r27 r28 r29 r30 r31 r32 r33 r34 r35, Below W2.heap.size W2 wD → BuildAt wD w5 (es ++ [ev]) ov → Q .normal { tmps := #[v, t1, t2, .pointer (some ⟨bx, 0, none⟩), t4, .pointer (some ⟨wD.heap.size + 1, 0, none⟩), ov, .bool true, t8, t9, t10, t11, t12, t13, t14, t15, t16, t17, t18, t19, t20, t21, t22, t23, t24, r25, r26, r27, r28, r29, r30, r31, r32, r33, r34, r35, t36, t37, t38, t39, t40, t41, t42, t43, t44, t45, t46, t47, t48, t49, t50, t51, t52, t53, t54, t55, t56, t57, t58, t59, t60, t61, t62, t63, t64, t65, t66, t67, t68, t69, t70, t71, t72, t73], defers := [] } w5) :
    (Code.region 3 ops3 true).wp Tryz.prog Q { tmps := #[v, t1, t2, .pointer (some ⟨bx, 0, none⟩), t4, t5, t6, t7, t8, t9, t10, t11, t12, t13, t14, t15, t16, t17, t18, t19, t20, t21, t22, t23, t24, t25, t26, t27, t28, t29, t30, t31, t32, t33, t34, t35, t36, t37, t38, t39, t40, t41, t42, t43, t44, t45, t46, t47, t48, t49, t50, t51, t52, t53, t54, t55, t56, t57, t58, t59, t60, t61, t62, t63, t64, t65, t66, t67, t68, t69, t70, t71, t72, t73], defers := [] } W2 := by
  obtain ⟨i0, hi, hz0, hz1, hz2⟩ := info_parts Tryz.infoEv
  have hone2 := heW2.one
  have hH : Below W2.heap.size W2 W2.drew := (Below.refl _ _).drew
  refine wp_region_held_drew (S := fun W' => Below W2.heap.size W2 W') (by kernel_rfl) hH (fun _ => ?_)
  refine wpAnyH_take (i := 3) (oi := { dst := some 29, op := Op.load 27 (Operand.tmp 3), type := 27, pos := "law.go:84", after := #[], guard := none }) (v := .agg #[x0, v1, v2, v3, v4, v5, v6, v7, v8, v9, v10, v11, v12, v13, v14, v15, v16, g, sv, x1]) rfl (by kernel_rfl) (by kernel_rfl) (by kernel_rfl) (fun _ _ _ h => hP _ _ _ _ h) (yieldsIf_load_mid (by rfl) _ _ rfl bx 0 rfl [x0, v1, v2, v3, v4, v5, v6, v7, v8, v9, v10, v11, v12, v13, v14, v15, v16, g, sv, x1] _ (fun W' hW => (keepS hr2 hltW hW).2) Tryz.underlying27 rfl (by kernel_rfl)) hH ?_
  try simp only [Act.put, List.setIfInBounds_toArray, List.set_cons_zero, List.set_cons_succ]
  refine wpAnyH_take (i := 1) (oi := { dst := some 27, op := Op.move (Operand.tmp 0), type := 22, pos := "law.go:84", after := #[], guard := none }) (v := v) rfl (by kernel_rfl) (by kernel_rfl) (by kernel_rfl) (fun _ _ _ h => hP _ _ _ _ h) (Or.inl ⟨by rfl, fun w hSw => by go_simp⟩) hH ?_
  try simp only [Act.put, List.setIfInBounds_toArray, List.set_cons_zero, List.set_cons_succ]
  refine wpAnyH_ready (rs := [0, 4]) (by kernel_rfl) (by simp) ?_
  refine AllReadyH.cons (o := { dst := some 26, op := Op.buildSlice 22 0 #[], type := 22, pos := "law.go:84", after := #[], guard := none }) rfl (fun K hK => ?_) ?_
  · skip
    go_simp
    have hA := (hH).alloc (hH).size (.cells #[] 27)
    refine hK.out _ _ hA (fun _ => ?_)
    clear hK
    try simp only [Act.put, List.setIfInBounds_toArray, List.set_cons_zero, List.set_cons_succ]
    refine wpAnyH_ready (rs := [2, 4]) (by kernel_rfl) (by simp) ?_
    refine AllReadyH.cons (o := { dst := some 28, op := Op.call { callee := Callee.builtin Builtin.append, args := #[Operand.tmp 26, Operand.tmp 27], argTypes := #[22, 22] }, type := 22, pos := "law.go:84", after := #[{ on := 0, ground := Ground.data }, { on := 1, ground := Ground.data }], guard := none }) rfl (fun K hK => ?_) ?_
    · skip
      refine step_append_bel (o := { dst := some 28, op := Op.call { callee := Callee.builtin Builtin.append, args := #[Operand.tmp 26, Operand.tmp 27], argTypes := #[22, 22] }, type := 22, pos := "law.go:84", after := #[{ on := 0, ground := Ground.data }, { on := 1, ground := Ground.data }], guard := none }) _ rfl (.tmp 26) (.tmp 27) 22 (by rfl) W2 hA 27 i0 _ 20 80 Tryz.underlying22 hi hz0 hz1 hz2 rfl (by omega) (.slice (some ⟨W2.heap.size, 0, none⟩) 0 0) 0 [] rfl (own_empty (by exact heap_alloc_new _ _) (by first | exact Nat.le_refl _ | omega)) v es.length ys rfl (hsrc.below hA) hone (by omega) (by omega) ?_
      intro vB wB hownB hbB hgB hatB
      refine hK.out _ _ hbB (fun _ => ?_)
      clear hK
      try simp only [Act.put, List.setIfInBounds_toArray, List.set_cons_zero, List.set_cons_succ]
      refine wpAnyH_ready (rs := [4]) (by kernel_rfl) (by simp) ?_
      refine AllReadyH.cons (o := { dst := some 30, op := Op.buildSlice 22 1 #[(0, Operand.tmp 29)], type := 22, pos := "law.go:84", after := #[{ on := 3, ground := Ground.data }], guard := none }) rfl (fun K hK => ?_) AllReadyH.nil
      go_simp
      have hC := (hbB).alloc (hbB).size (.cells #[x0, v1, v2, v3, v4, v5, v6, v7, v8, v9, v10, v11, v12, v13, v14, v15, v16, g, sv, x1] 27)
      refine hK.out _ _ hC (fun _ => ?_)
      clear hK
      try simp only [Act.put, List.setIfInBounds_toArray, List.set_cons_zero, List.set_cons_succ]
      refine wpAnyH_ready (rs := [5]) (by kernel_rfl) (by simp) ?_
      refine AllReadyH.cons (o := { dst := some 31, op := Op.call { callee := Callee.builtin Builtin.append, args := #[Operand.tmp 28, Operand.tmp 30], argTypes := #[22, 22] }, type := 22, pos := "law.go:84", after := #[{ on := 2, ground := Ground.data }, { on := 4, ground := Ground.data }, { on := 2, ground := Ground.chain }], guard := none }) rfl (fun K hK => ?_) AllReadyH.nil
      refine step_append_bel (o := { dst := some 31, op := Op.call { callee := Callee.builtin Builtin.append, args := #[Operand.tmp 28, Operand.tmp 30], argTypes := #[22, 22] }, type := 22, pos := "law.go:84", after := #[{ on := 2, ground := Ground.data }, { on := 4, ground := Ground.data }, { on := 2, ground := Ground.chain }], guard := none }) _ rfl (.tmp 28) (.tmp 30) 22 (by rfl) W2 hC 27 i0 _ 20 80 Tryz.underlying22 hi hz0 hz1 hz2 rfl (by omega) vB (0 + es.length) _ rfl (hownB.alloc _) (.slice (some ⟨wB.heap.size, 0, none⟩) 1 1) 1 [x0, v1, v2, v3, v4, v5, v6, v7, v8, v9, v10, v11, v12, v13, v14, v15, v16, g, sv, x1] rfl (by exact src_block (heap_alloc_new _ _) rfl) hone2 (by omega) (by omega) ?_
      intro vD wD hownD hbD hgD hatD
      refine hK.out _ _ hbD (fun _ => ?_)
      clear hK
      try simp only [Act.put, List.setIfInBounds_toArray, List.set_cons_zero, List.set_cons_succ]
      exact r3_tail v es ev bx W2 wD vD t1 t2 t4 t5 t6 t7 t8 t9 t10 t11 t12 t13 t14 t15 t16 t17 t18 t19 t20 t21 t22 t23 t24 t25 t26 t27 t28 t29 t30 t31 t32 t33 t34 t35 t36 t37 t38 t39 t40 t41 t42 t43 t44 t45 t46 t47 t48 t49 t50 t51 t52 t53 t54 t55 t56 t57 t58 t59 t60 t61 t62 t63 t64 t65 t66 t67 t68 t69 t70 t71 t72 t73 _ _ _ _ _ Q h20 hP hbD (ev_append hownD hbD hsrc.1 hcs heW2 (by omega)) (fun w5 ov r25 r26 r27 r28 r29 r30 r31 r32 r33 r34 r35 hB => hQ wD w5 ov r25 r26 r27 r28 r29 r30 r31 r32 r33 r34 r35 hbD hB)
    · skip
      refine AllReadyH.cons (o := { dst := some 30, op := Op.buildSlice 22 1 #[(0, Operand.tmp 29)], type := 22, pos := "law.go:84", after := #[{ on := 3, ground := Ground.data }], guard := none }) rfl (fun K hK => ?_) AllReadyH.nil
      go_simp
      have hC := (hA).alloc (hA).size (.cells #[x0, v1, v2, v3, v4, v5, v6, v7, v8, v9, v10, v11, v12, v13, v14, v15, v16, g, sv, x1] 27)
      refine hK.out _ _ hC (fun _ => ?_)
      clear hK
      try simp only [Act.put, List.setIfInBounds_toArray, List.set_cons_zero, List.set_cons_succ]
      refine wpAnyH_ready (rs := [2]) (by kernel_rfl) (by simp) ?_
      refine AllReadyH.cons (o := { dst := some 28, op := Op.call { callee := Callee.builtin Builtin.append, args := #[Operand.tmp 26, Operand.tmp 27], argTypes := #[22, 22] }, type := 22, pos := "law.go:84", after := #[{ on := 0, ground := Ground.data }, { on := 1, ground := Ground.data }], guard := none }) rfl (fun K hK => ?_) AllReadyH.nil
      refine step_append_bel (o := { dst := some 28, op := Op.call { callee := Callee.builtin Builtin.append, args := #[Operand.tmp 26, Operand.tmp 27], argTypes := #[22, 22] }, type := 22, pos := "law.go:84", after := #[{ on := 0, ground := Ground.data }, { on := 1, ground := Ground.data }], guard := none }) _ rfl (.tmp 26) (.tmp 27) 22 (by rfl) W2 hC 27 i0 _ 20 80 Tryz.underlying22 hi hz0 hz1 hz2 rfl (by omega) (.slice (some ⟨W2.heap.size, 0, none⟩) 0 0) 0 [] rfl (own_empty (by exact heap_alloc2_old _ _ _) (by first | exact Nat.le_refl _ | omega)) v es.length ys rfl (hsrc.below hC) hone (by omega) (by omega) ?_
      intro vB wB hownB hbB hgB hatB
      refine hK.out _ _ hbB (fun _ => ?_)
      clear hK
      try simp only [Act.put, List.setIfInBounds_toArray, List.set_cons_zero, List.set_cons_succ]
      refine wpAnyH_ready (rs := [5]) (by kernel_rfl) (by simp) ?_
      refine AllReadyH.cons (o := { dst := some 31, op := Op.call { callee := Callee.builtin Builtin.append, args := #[Operand.tmp 28, Operand.tmp 30], argTypes := #[22, 22] }, type := 22, pos := "law.go:84", after := #[{ on := 2, ground := Ground.data }, { on := 4, ground := Ground.data }, { on := 2, ground := Ground.chain }], guard := none }) rfl (fun K hK => ?_) AllReadyH.nil
      refine step_append_bel (o := { dst := some 31, op := Op.call { callee := Callee.builtin Builtin.append, args := #[Operand.tmp 28, Operand.tmp 30], argTypes := #[22, 22] }, type := 22, pos := "law.go:84", after := #[{ on := 2, ground := Ground.data }, { on := 4, ground := Ground.data }, { on := 2, ground := Ground.chain }], guard := none }) _ rfl (.tmp 28) (.tmp 30) 22 (by rfl) W2 hbB 27 i0 _ 20 80 Tryz.underlying22 hi hz0 hz1 hz2 rfl (by omega) vB (0 + es.length) _ rfl (hownB) (.slice (some ⟨W2.heap.size + 1, 0, none⟩) 1 1) 1 [x0, v1, v2, v3, v4, v5, v6, v7, v8, v9, v10, v11, v12, v13, v14, v15, v16, g, sv, x1] rfl (by exact src_block ((hgB.block _ (by simp) (by simp [Value.ownBlock])).trans (heap_alloc2_new _ _ _)) rfl) hone2 (by omega) (by omega) ?_
      intro vD wD hownD hbD hgD hatD
      refine hK.out _ _ hbD (fun _ => ?_)
      clear hK
      try simp only [Act.put, List.setIfInBounds_toArray, List.set_cons_zero, List.set_cons_succ]
      exact r3_tail v es ev bx W2 wD vD t1 t2 t4 t5 t6 t7 t8 t9 t10 t11 t12 t13 t14 t15 t16 t17 t18 t19 t20 t21 t22 t23 t24 t25 t26 t27 t28 t29 t30 t31 t32 t33 t34 t35 t36 t37 t38 t39 t40 t41 t42 t43 t44 t45 t46 t47 t48 t49 t50 t51 t52 t53 t54 t55 t56 t57 t58 t59 t60 t61 t62 t63 t64 t65 t66 t67 t68 t69 t70 t71 t72 t73 _ _ _ _ _ Q h20 hP hbD (ev_append hownD hbD hsrc.1 hcs heW2 (by omega)) (fun w5 ov r25 r26 r27 r28 r29 r30 r31 r32 r33 r34 r35 hB => hQ wD w5 ov r25 r26 r27 r28 r29 r30 r31 r32 r33 r34 r35 hbD hB)
  · skip
    refine AllReadyH.cons (o := { dst := some 30, op := Op.buildSlice 22 1 #[(0, Operand.tmp 29)], type := 22, pos := "law.go:84", after := #[{ on := 3, ground := Ground.data }], guard := none }) rfl (fun K hK => ?_) AllReadyH.nil
    go_simp
    have hC := (hH).alloc (hH).size (.cells #[x0, v1, v2, v3, v4, v5, v6, v7, v8, v9, v10, v11, v12, v13, v14, v15, v16, g, sv, x1] 27)
    refine hK.out _ _ hC (fun _ => ?_)
    clear hK
    try simp only [Act.put, List.setIfInBounds_toArray, List.set_cons_zero, List.set_cons_succ]
    refine wpAnyH_ready (rs := [0]) (by kernel_rfl) (by simp) ?_
    refine AllReadyH.cons (o := { dst := some 26, op := Op.buildSlice 22 0 #[], type := 22, pos := "law.go:84", after := #[], guard := none }) rfl (fun K hK => ?_) AllReadyH.nil
    go_simp
    have hA := (hC).alloc (hC).size (.cells #[] 27)
    refine hK.out _ _ hA (fun _ => ?_)
    clear hK
    try simp only [Act.put, List.setIfInBounds_toArray, List.set_cons_zero, List.set_cons_succ]
    refine wpAnyH_ready (rs := [2]) (by kernel_rfl) (by simp) ?_
    refine AllReadyH.cons (o := { dst := some 28, op := Op.call { callee := Callee.builtin Builtin.append, args := #[Operand.tmp 26, Operand.tmp 27], argTypes := #[22, 22] }, type := 22, pos := "law.go:84", after := #[{ on := 0, ground := Ground.data }, { on := 1, ground := Ground.data }], guard := none }) rfl (fun K hK => ?_) AllReadyH.nil
    refine step_append_bel (o := { dst := some 28, op := Op.call { callee := Callee.builtin Builtin.append, args := #[Operand.tmp 26, Operand.tmp 27], argTypes := #[22, 22] }, type := 22, pos := "law.go:84", after := #[{ on := 0, ground := Ground.data }, { on := 1, ground := Ground.data }], guard := none }) _ rfl (.tmp 26) (.tmp 27) 22 (by rfl) W2 hA 27 i0 _ 20 80 Tryz.underlying22 hi hz0 hz1 hz2 rfl (by omega) (.slice (some ⟨W2.heap.size + 1, 0, none⟩) 0 0) 0 [] rfl (own_empty (by exact heap_alloc2_new _ _ _) (by first | exact Nat.le_refl _ | omega)) v es.length ys rfl (hsrc.below hA) hone (by omega) (by omega) ?_
    intro vB wB hownB hbB hgB hatB
    refine hK.out _ _ hbB (fun _ => ?_)
    clear hK
    try simp only [Act.put, List.setIfInBounds_toArray, List.set_cons_zero, List.set_cons_succ]
    refine wpAnyH_ready (rs := [5]) (by kernel_rfl) (by simp) ?_
    refine AllReadyH.cons (o := { dst := some 31, op := Op.call { callee := Callee.builtin Builtin.append, args := #[Operand.tmp 28, Operand.tmp 30], argTypes := #[22, 22] }, type := 22, pos := "law.go:84", after := #[{ on := 2, ground := Ground.data }, { on := 4, ground := Ground.data }, { on := 2, ground := Ground.chain }], guard := none }) rfl (fun K hK => ?_) AllReadyH.nil
    refine step_append_bel (o := { dst := some 31, op := Op.call { callee := Callee.builtin Builtin.append, args := #[Operand.tmp 28, Operand.tmp 30], argTypes := #[22, 22] }, type := 22, pos := "law.go:84", after := #[{ on := 2, ground := Ground.data }, { on := 4, ground := Ground.data }, { on := 2, ground := Ground.chain }], guard := none }) _ rfl (.tmp 28) (.tmp 30) 22 (by rfl) W2 hbB 27 i0 _ 20 80 Tryz.underlying22 hi hz0 hz1 hz2 rfl (by omega) vB (0 + es.length) _ rfl (hownB) (.slice (some ⟨W2.heap.size, 0, none⟩) 1 1) 1 [x0, v1, v2, v3, v4, v5, v6, v7, v8, v9, v10, v11, v12, v13, v14, v15, v16, g, sv, x1] rfl (by exact src_block ((hgB.block _ (by simp <;> omega) (by simp [Value.ownBlock])).trans (heap_alloc2_old _ _ _)) rfl) hone2 (by omega) (by omega) ?_
    intro vD wD hownD hbD hgD hatD
    refine hK.out _ _ hbD (fun _ => ?_)
    clear hK
    try simp only [Act.put, List.setIfInBounds_toArray, List.set_cons_zero, List.set_cons_succ]
    exact r3_tail v es ev bx W2 wD vD t1 t2 t4 t5 t6 t7 t8 t9 t10 t11 t12 t13 t14 t15 t16 t17 t18 t19 t20 t21 t22 t23 t24 t25 t26 t27 t28 t29 t30 t31 t32 t33 t34 t35 t36 t37 t38 t39 t40 t41 t42 t43 t44 t45 t46 t47 t48 t49 t50 t51 t52 t53 t54 t55 t56 t57 t58 t59 t60 t61 t62 t63 t64 t65 t66 t67 t68 t69 t70 t71 t72 t73 _ _ _ _ _ Q h20 hP hbD (ev_append hownD hbD hsrc.1 hcs heW2 (by omega)) (fun w5 ov r25 r26 r27 r28 r29 r30 r31 r32 r33 r34 r35 hB => hQ wD w5 ov r25 r26 r27 r28 r29 r30 r31 r32 r33 r34 r35 hbD hB)
end Go.Proofs.YtlemadbmlnjhpaaGreatDoor
