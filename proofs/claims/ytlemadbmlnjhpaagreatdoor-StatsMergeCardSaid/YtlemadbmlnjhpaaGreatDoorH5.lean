/- Stats.Text: its two statements that draw their order. -/
/- Stats.Text: the walk. -/
import Derived.Test.YtlemadbmlnjhpaaGreatDoorH4
import Derived.Test.YtlemadbmlnjhpaaGreatDoorH2
import Derived.Test.YtlemadbmlnjhpaaGreatDoorTextShelf
import Derived.Shelf.Strings.BuilderK
import Derived.Lib.OthersKept
import Derived.Lib.SmallJoins
namespace Go.Proofs.YtlemadbmlnjhpaaGreatDoor
open Go Go.RowKit Go.Proofs
open Go.Sort (grow)
set_option linter.unusedSimpArgs false
set_option linter.unusedVariables false

abbrev bytesV (l : List UInt8) : Value := .string ⟨l.toArray⟩
def wordsV : Value := .agg #[.string { data := #[100, 97, 121] }, .string { data := #[103, 114, 111, 117, 112] }, .string { data := #[115, 105, 116, 101] }, .string { data := #[97, 117, 116, 104, 111, 114] }]
set_option maxHeartbeats 1000000 in
theorem words_any (w : World) : Calls Tryz.prog 41 #[] w fun e w' => e = .returned wordsV ∧ Below w.heap.size w w' := by
  go_enter Tryz.func41, Tryz.ntmps41
  go_wp2_with fail
  exact bodyPost_ret (v := wordsV) (by simp [results, Tryz.results41, go_sem, wordsV]) rfl ⟨rfl, (Below.refl _ _).alloc (Nat.le_refl _) _⟩
theorem Tryz.idxW0 (w : World) : (Instr.index 84 wordsV (.int .i64 0)).run Tryz.prog w = .ok (bytesV (kindWord 0)) w := by kernel_rfl
theorem Tryz.idxW1 (w : World) : (Instr.index 84 wordsV (.int .i64 1)).run Tryz.prog w = .ok (bytesV (kindWord 1)) w := by kernel_rfl
theorem Tryz.idxW2 (w : World) : (Instr.index 84 wordsV (.int .i64 2)).run Tryz.prog w = .ok (bytesV (kindWord 2)) w := by kernel_rfl
theorem Tryz.idxW3 (w : World) : (Instr.index 84 wordsV (.int .i64 3)).run Tryz.prog w = .ok (bytesV (kindWord 3)) w := by kernel_rfl
theorem Tryz.idxW (k : Int) (h0 : 0 ≤ k) (h3 : k ≤ 3) (w : World) : (Instr.index 84 wordsV (.int .i64 k)).run Tryz.prog w = .ok (bytesV (kindWord k)) w := by
  have : k = 0 ∨ k = 1 ∨ k = 2 ∨ k = 3 := by omega
  rcases this with rfl | rfl | rfl | rfl
  · exact Tryz.idxW0 w
  · exact Tryz.idxW1 w
  · exact Tryz.idxW2 w
  · exact Tryz.idxW3 w
theorem below_grow (w : World) (k : Nat) (os : Array Obj) : Below w.heap.size w (grow (w.drewN k) os) :=
  ⟨rfl, rfl, rfl, by simp [grow], fun i hi => by
    show (w.heap ++ os)[i]? = w.heap[i]?
    rw [Array.getElem?_append_left hi]⟩
/-- the table that numbers are printed by -/
def Tab (w : World) : Prop := Lib.TabIs Tryz.prog w "internal/strconv.uint64pow10" .u64 Lib.pow10Tab
theorem Tab.below {w w' : World} (h : Tab w) (hb : Below w.heap.size w w') : Tab w' := Joins.tab_stays (g := 1) (by kernel_rfl) h hb (Nat.le_refl _)
theorem bsize (l : List UInt8) : (⟨l.toArray⟩ : ByteArray).size = l.length := by simp [ByteArray.size]
theorem app_nl (J : List UInt8) : (⟨J.toArray⟩ : ByteArray) ++ ⟨#[10]⟩ = ⟨(J ++ [10]).toArray⟩ := by
  apply ByteArray.ext; simp
theorem add_nl (J : List UInt8) (h : J.length ≤ 10000) (W : World) : (Op.stringOp .add ⟨J.toArray⟩ { data := #[10] }).run Tryz.prog W = .ok (.string ⟨(J ++ [10]).toArray⟩) W :=
  run_string_add_lists W J [10] (by omega) (by simp)
theorem writeString_any (B b : Nat) (bs : List Value) (s : ByteArray) (w : World) (h : Lib.IsBuilderF 77 5 B b bs w) (hlen : bs.length + s.size ≤ 140737488355328) (hBw : B ≤ w.heap.size) :
    Calls Tryz.prog 39 #[.pointer (some ⟨b, 0, none⟩), .string s] w fun e w' => e = .returned (.tuple #[.int .i64 s.size, .nilIface]) ∧ (Lib.BuilderAtF 77 5 B b (.pointer (some ⟨b, 0, none⟩)) (bs ++ Lib.strCells s) w' ∧ Below B w w' ∧ Lib.OthersKept 5 (some b) w w') :=
  Any.Builder_WriteString_k { Tryz.lays156 with } Tryz.Builder_Extra_156 B b bs s w h hlen hBw
theorem itoa_any (n : Int) (w : World) (hT : Tab w) (h0 : -9223372036854775808 ≤ n) (h1 : n ≤ 9223372036854775807) : Calls Tryz.prog 38 #[.int .i64 n] w fun e w' => e = .returned (bytesV (Lib.itoa n)) ∧ Below w.heap.size w w' :=
  (Tryz.strconv_Itoa n h0 h1 w hT).mono fun _ _ ⟨he, k, os, hw⟩ => ⟨he, by rw [hw]; exact below_grow w k os⟩

def ops10 : Array Oper := #[{ dst := some 27, op := Op.move (Operand.tmp 0), type := 30, pos := "stats.go:279", after := #[], guard := none }, { dst := some 28, op := Op.nilCheck (Operand.tmp 27), type := 0, pos := "stats.go:279", after := #[{ on := 0, ground := Ground.data }], guard := none }, { dst := some 29, op := Op.fieldAddr 72 (Operand.tmp 28) 0, type := 0, pos := "stats.go:279", after := #[{ on := 1, ground := Ground.data }], guard := none }, { dst := some 30, op := Op.load 70 (Operand.tmp 29), type := 70, pos := "stats.go:279", after := #[{ on := 2, ground := Ground.data }], guard := none }, { dst := some 31, op := Op.load 64 (Operand.tmp 5), type := 64, pos := "stats.go:279", after := #[], guard := none }, { dst := some 32, op := Op.lookup 70 (Operand.tmp 30) (Operand.tmp 31) false, type := 34, pos := "stats.go:279", after := #[{ on := 3, ground := Ground.data }, { on := 4, ground := Ground.data }], guard := none }, { dst := some 7, op := Op.alloc 34, type := 0, pos := "stats.go:279", after := #[], guard := none }, { dst := none, op := Op.store 34 (Operand.tmp 7) (Operand.tmp 32), type := 0, pos := "stats.go:279", after := #[{ on := 6, ground := Ground.data }, { on := 5, ground := Ground.data }, { on := 0, ground := Ground.phase }, { on := 1, ground := Ground.phase }, { on := 2, ground := Ground.phase }, { on := 3, ground := Ground.phase }, { on := 4, ground := Ground.phase }, { on := 5, ground := Ground.phase }, { on := 6, ground := Ground.phase }], guard := none }]
set_option maxRecDepth 100000 in
set_option maxHeartbeats 3200000 in
theorem text_region10 (sb m kb : Nat) (L : List (Key × Cnt)) (zs : List Int) (k1 k2 : Int) (k3 : ByteArray) (c1 c2 : Int) (wA : World) (t1 t2 t3 t4 t6 t7 t8 t9 t10 t11 t12 t13 t14 t15 t16 t17 t18 t19 t20 t21 t22 t23 t24 t25 t26 t27 t28 t29 t30 t31 t32 t33 t34 t35 t36 t37 t38 t39 t40 t41 t42 t43 t44 t45 t46 t47 t48 t49 t50 t51 t52 t53 t54 t55 t56 t57 t58 t59 t60 t61 t62 t63 t64 t65 t66 t67 t68 : Value) (Q : Exit → Act → World → Prop) (hP : ∀ c a a' w, Q (.panic c) a w → Q (.panic c) a' w)
    (hst : StatsAt wA sb m L zs) (hk : wA.rangeAt kb 0 [.int .i64 k1, .int .i64 k2, .string k3]) (hkb : kb < wA.heap.size) (hc : getL (k1, k2, k3) L = (c1, c2))
    (hQ : ∀ w' r27 r28 r29 r30 r31 r32, Below wA.heap.size wA w' → w'.heap[wA.heap.size]? = some (.cells #[.int .i64 c1, .int .i64 c2] 34 (0, 0)) → Q .normal { tmps := #[(.pointer (some ⟨sb, 0, none⟩)), t1, t2, t3, t4, (.pointer (some ⟨kb, 0, none⟩)), t6, (.pointer (some ⟨wA.heap.size, 0, none⟩)), t8, t9, t10, t11, t12, t13, t14, t15, t16, t17, t18, t19, t20, t21, t22, t23, t24, t25, t26, r27, r28, r29, r30, r31, r32, t33, t34, t35, t36, t37, t38, t39, t40, t41, t42, t43, t44, t45, t46, t47, t48, t49, t50, t51, t52, t53, t54, t55, t56, t57, t58, t59, t60, t61, t62, t63, t64, t65, t66, t67, t68], defers := [] } w') :
    (Code.region 10 ops10 true).wp Tryz.prog Q { tmps := #[(.pointer (some ⟨sb, 0, none⟩)), t1, t2, t3, t4, (.pointer (some ⟨kb, 0, none⟩)), t6, t7, t8, t9, t10, t11, t12, t13, t14, t15, t16, t17, t18, t19, t20, t21, t22, t23, t24, t25, t26, t27, t28, t29, t30, t31, t32, t33, t34, t35, t36, t37, t38, t39, t40, t41, t42, t43, t44, t45, t46, t47, t48, t49, t50, t51, t52, t53, t54, t55, t56, t57, t58, t59, t60, t61, t62, t63, t64, t65, t66, t67, t68], defers := [] } wA := by
  have hH : Below wA.heap.size wA wA.drew := (Below.refl _ _).drew
  refine wp_region_held_drew (S := fun W' => Below wA.heap.size wA W') (by kernel_rfl) hH (fun _ => ?_)
  refine wpAnyH_take (i := 0) (oi := { dst := some 27, op := Op.move (Operand.tmp 0), type := 30, pos := "stats.go:279", after := #[], guard := none }) (v := (.pointer (some ⟨sb, 0, none⟩))) rfl (by kernel_rfl) (by kernel_rfl) (by kernel_rfl) (fun _ _ _ h => hP _ _ _ _ h) (Or.inl ⟨by rfl, fun w hSw => by go_simp⟩) hH ?_
  try simp only [Act.put, List.setIfInBounds_toArray, List.set_cons_zero, List.set_cons_succ]
  refine wpAnyH_take (i := 1) (oi := { dst := some 28, op := Op.nilCheck (Operand.tmp 27), type := 0, pos := "stats.go:279", after := #[{ on := 0, ground := Ground.data }], guard := none }) (v := (.pointer (some ⟨sb, 0, none⟩))) rfl (by kernel_rfl) (by kernel_rfl) (by kernel_rfl) (fun _ _ _ h => hP _ _ _ _ h) (Or.inl ⟨by rfl, fun w hSw => by go_simp⟩) hH ?_
  try simp only [Act.put, List.setIfInBounds_toArray, List.set_cons_zero, List.set_cons_succ]
  refine wpAnyH_take (i := 2) (oi := { dst := some 29, op := Op.fieldAddr 72 (Operand.tmp 28) 0, type := 0, pos := "stats.go:279", after := #[{ on := 1, ground := Ground.data }], guard := none }) (v := (.pointer (some ⟨sb, 0, none⟩))) rfl (by kernel_rfl) (by kernel_rfl) (by kernel_rfl) (fun _ _ _ h => hP _ _ _ _ h) (Or.inl ⟨by rfl, fun w hSw => by go_simp⟩) hH ?_
  try simp only [Act.put, List.setIfInBounds_toArray, List.set_cons_zero, List.set_cons_succ]
  refine wpAnyH_take (i := 3) (oi := { dst := some 30, op := Op.load 70 (Operand.tmp 29), type := 70, pos := "stats.go:279", after := #[{ on := 2, ground := Ground.data }], guard := none }) (v := (.map (some m))) rfl (by kernel_rfl) (by kernel_rfl) (by kernel_rfl) (fun _ _ _ h => hP _ _ _ _ h) (Or.inl ⟨by rfl, fun W' hW' => by have hc0 := (hst.below hW').cell0; clear hW'; go_simp⟩) hH ?_
  try simp only [Act.put, List.setIfInBounds_toArray, List.set_cons_zero, List.set_cons_succ]
  refine wpAnyH_take (i := 4) (oi := { dst := some 31, op := Op.load 64 (Operand.tmp 5), type := 64, pos := "stats.go:279", after := #[], guard := none }) (v := (.agg #[.int .i64 k1, .int .i64 k2, .string k3])) rfl (by kernel_rfl) (by kernel_rfl) (by kernel_rfl) (fun _ _ _ h => hP _ _ _ _ h) (yieldsIf_load_mid (by rfl) _ _ rfl kb 0 rfl [.int .i64 k1, .int .i64 k2, .string k3] _ (fun W' hW => (keepS hk hkb hW).2) Tryz.underlying64 rfl (by kernel_rfl)) hH ?_
  try simp only [Act.put, List.setIfInBounds_toArray, List.set_cons_zero, List.set_cons_succ]
  refine wpAnyH_take (i := 5) (oi := { dst := some 32, op := Op.lookup 70 (Operand.tmp 30) (Operand.tmp 31) false, type := 34, pos := "stats.go:279", after := #[{ on := 3, ground := Ground.data }, { on := 4, ground := Ground.data }], guard := none }) (v := (.agg #[.int .i64 c1, .int .i64 c2])) rfl (by kernel_rfl) (by kernel_rfl) (by kernel_rfl) (fun _ _ _ h => hP _ _ _ _ h) (Or.inl ⟨by rfl, fun W' hW' => by have hlk := (hst.below hW').2.2.lookup (k1, k2, k3); rw [hc] at hlk; have hlk' : (Instr.lookup 70 (.map (some m)) (.agg #[.int .i64 k1, .int .i64 k2, .string k3]) false).run Tryz.prog W' = .ok (.agg #[.int .i64 c1, .int .i64 c2]) W' := hlk; clear hlk hW'; go_simp⟩) hH ?_
  try simp only [Act.put, List.setIfInBounds_toArray, List.set_cons_zero, List.set_cons_succ]
  refine wpAnyH_ready (rs := [6]) (by kernel_rfl) (by simp) ?_
  refine AllReadyH.cons (o := { dst := some 7, op := Op.alloc 34, type := 0, pos := "stats.go:279", after := #[], guard := none }) rfl (fun K hK => ?_) AllReadyH.nil
  go_simp
  refine hK.out _ _ (hH.alloc hH.size _) (fun _ => ?_)
  clear hK
  try simp only [Act.put, List.setIfInBounds_toArray, List.set_cons_zero, List.set_cons_succ]
  refine wpAnyH_ready (rs := [7]) (by kernel_rfl) (by simp) ?_
  refine AllReadyH.cons (o := { dst := none, op := Op.store 34 (Operand.tmp 7) (Operand.tmp 32), type := 0, pos := "stats.go:279", after := #[{ on := 6, ground := Ground.data }, { on := 5, ground := Ground.data }, { on := 0, ground := Ground.phase }, { on := 1, ground := Ground.phase }, { on := 2, ground := Ground.phase }, { on := 3, ground := Ground.phase }, { on := 4, ground := Ground.phase }, { on := 5, ground := Ground.phase }, { on := 6, ground := Ground.phase }], guard := none }) rfl (fun K hK => ?_) AllReadyH.nil
  go_simp
  refine hK.out _ _ ?_ (fun _ => ?_)
  · exact hH.alloc hH.size _
  clear hK
  try simp only [Act.put, List.setIfInBounds_toArray, List.set_cons_zero, List.set_cons_succ]
  refine wpAnyH_done (by kernel_rfl) ?_ _
  dsimp only at hQ
  exact hQ _ _ _ _ _ _ _ (hH.alloc hH.size _) (heap_alloc_new wA _)

theorem range_of_heap {w : World} {b : Nat} {cs : List Value} {t : TypeId} (h : w.heap[b]? = some (.cells cs.toArray t (0, 0))) : w.rangeAt b 0 cs := fun j v hj => by
  rw [cell_of_row _ _ _ _ _ _ h, Nat.zero_add]; simpa using hj
theorem builder_block {T e : TypeId} {B b : Nat} {bs : List Value} {w : World} (h : Lib.IsBuilderF T e B b bs w) : ∃ cs, w.heap[b]? = some (.cells cs T (0, 0)) := by
  rcases h with ⟨_, v, h, _⟩ | ⟨_, v, h, _⟩ <;> exact ⟨_, h⟩
theorem others_cell {T e t : TypeId} {B b k : Nat} {bs : List Value} {w w' : World} {cs : Array Value} {fz : Nat × Nat} (ho : Lib.OthersKept e (some b) w w') (hb : Lib.IsBuilderF T e B b bs w) (h : w.heap[k]? = some (.cells cs t fz)) (h1 : t ≠ T) (h2 : t ≠ e) : w'.heap[k]? = some (.cells cs t fz) := by
  refine ho k _ h (fun he => ?_) (fun c fz he => h2 (Obj.cells.inj he).2.1)
  obtain ⟨cs', hc⟩ := builder_block hb
  cases he
  rw [h] at hc
  exact h1 (Obj.cells.inj (Option.some.inj hc)).2.1
theorem lt_of_row {w : World} {b o : Nat} {cs : List Value} {v : Value} (h : w.rangeAt b o cs) (h0 : cs[0]? = some v) : b < w.heap.size := World.block_lt_of_cell? w _ (h 0 v h0)
theorem builder_below {T e : TypeId} {B b : Nat} {bs : List Value} {w w' : World} (h : Lib.IsBuilderF T e B b bs w) (hb : Below w.heap.size w w') : Lib.IsBuilderF T e B b bs w' := by
  have key : ∀ p, Lib.BuilderAtF T e B b p bs w → Lib.BuilderAtF T e B b p bs w' := fun p hp => by
    obtain ⟨h0, v, h1, h2, h3⟩ := hp
    refine ⟨h0, v, (hb.block b (Array.getElem?_eq_some_iff.1 h1).1).trans h1, ?_, h3⟩
    obtain ⟨g1, g2⟩ := h2
    refine ⟨g1, ?_⟩
    rcases g2 with hn | ⟨g, cap, cur, fz, hv, hB, hg, rest⟩
    · exact .inl hn
    · exact .inr ⟨g, cap, cur, fz, hv, hB, (hb.block g (Array.getElem?_eq_some_iff.1 hg).1).trans hg, rest⟩
  exact h.elim (fun x => .inl (key _ x)) (fun x => .inr (key _ x))
def ops11 : Array Oper := #[{ dst := some 33, op := Op.call { callee := Callee.value (Operand.func 41), args := #[], argTypes := #[] }, type := 84, pos := "stats.go:280", after := #[], guard := none }, { dst := some 34, op := Op.fieldAddr 64 (Operand.tmp 5) 1, type := 0, pos := "stats.go:280", after := #[], guard := none }, { dst := some 35, op := Op.load 3 (Operand.tmp 34), type := 3, pos := "stats.go:280", after := #[{ on := 1, ground := Ground.data }], guard := none }, { dst := some 36, op := Op.index 84 (Operand.tmp 33) (Operand.tmp 35), type := 9, pos := "stats.go:280", after := #[{ on := 0, ground := Ground.data }, { on := 2, ground := Ground.data }], guard := none }, { dst := some 37, op := Op.move (Operand.tmp 6), type := 9, pos := "stats.go:280", after := #[], guard := none }, { dst := some 38, op := Op.fieldAddr 34 (Operand.tmp 7) 0, type := 0, pos := "stats.go:280", after := #[], guard := none }, { dst := some 39, op := Op.load 3 (Operand.tmp 38), type := 3, pos := "stats.go:280", after := #[{ on := 5, ground := Ground.data }], guard := none }, { dst := some 40, op := Op.call { callee := Callee.value (Operand.func 38), args := #[Operand.tmp 39], argTypes := #[3] }, type := 9, pos := "stats.go:280", after := #[{ on := 6, ground := Ground.data }, { on := 0, ground := Ground.chain }], guard := none }, { dst := some 41, op := Op.fieldAddr 34 (Operand.tmp 7) 1, type := 0, pos := "stats.go:280", after := #[], guard := none }, { dst := some 42, op := Op.load 3 (Operand.tmp 41), type := 3, pos := "stats.go:280", after := #[{ on := 8, ground := Ground.data }], guard := none }, { dst := some 43, op := Op.call { callee := Callee.value (Operand.func 38), args := #[Operand.tmp 42], argTypes := #[3] }, type := 9, pos := "stats.go:280", after := #[{ on := 9, ground := Ground.data }, { on := 7, ground := Ground.chain }], guard := none }, { dst := some 44, op := Op.buildSlice 25 4 #[(0, Operand.tmp 36), (1, Operand.tmp 37), (2, Operand.tmp 40), (3, Operand.tmp 43)], type := 25, pos := "stats.go:280", after := #[{ on := 3, ground := Ground.data }, { on := 4, ground := Ground.data }, { on := 7, ground := Ground.data }, { on := 10, ground := Ground.data }], guard := none }, { dst := some 45, op := Op.call { callee := Callee.value (Operand.func 40), args := #[Operand.tmp 44, Operand.const (Value.string { data := #[32] })], argTypes := #[25, 9] }, type := 9, pos := "stats.go:280", after := #[{ on := 11, ground := Ground.data }, { on := 10, ground := Ground.chain }], guard := none }, { dst := some 46, op := Op.binOp BinOp.add 9 (Operand.tmp 45) (Operand.const (Value.string { data := #[10] })) 9, type := 9, pos := "stats.go:280", after := #[{ on := 12, ground := Ground.data }], guard := none }, { dst := some 47, op := Op.call { callee := Callee.value (Operand.func 39), args := #[Operand.tmp 3, Operand.tmp 46], argTypes := #[77, 9] }, type := 81, pos := "stats.go:280", after := #[{ on := 13, ground := Ground.data }, { on := 12, ground := Ground.chain }], guard := none }]
set_option maxRecDepth 100000 in
set_option maxHeartbeats 3200000 in
theorem text_region11 (b kb cb B : Nat) (k1 k2 : Int) (k3 nm : ByteArray) (c1 c2 : Int) (bs : List Value) (wB : World) (t0 t1 t2 t4 t8 t9 t10 t11 t12 t13 t14 t15 t16 t17 t18 t19 t20 t21 t22 t23 t24 t25 t26 t27 t28 t29 t30 t31 t32 t33 t34 t35 t36 t37 t38 t39 t40 t41 t42 t43 t44 t45 t46 t47 t48 t49 t50 t51 t52 t53 t54 t55 t56 t57 t58 t59 t60 t61 t62 t63 t64 t65 t66 t67 t68 : Value) (Q : Exit → Act → World → Prop) (hP : ∀ c a a' w, Q (.panic c) a w → Q (.panic c) a' w)
    (hkH : wB.heap[kb]? = some (.cells #[.int .i64 k1, .int .i64 k2, .string k3] 64 (0, 0))) (hcH : wB.heap[cb]? = some (.cells #[.int .i64 c1, .int .i64 c2] 34 (0, 0))) (hT : Tab wB) (hk2 : 0 ≤ k2 ∧ k2 ≤ 3) (hc1 : 0 ≤ c1 ∧ c1 ≤ 1000000000000) (hc2 : 0 ≤ c2 ∧ c2 ≤ 1000000000000)
    (hbd : Lib.IsBuilderF 77 5 B b bs wB) (hB : B ≤ wB.heap.size) (hjl : (Lib.join [kindWord k2, nm.data.toList, Lib.itoa c1, Lib.itoa c2] [32]).length ≤ 10000) (hbs : bs.length ≤ 100000000000000)
    (hQ : ∀ wJ w' r33 r34 r35 r36 r37 r38 r39 r40 r41 r42 r43 r44 r45 r46 r47, Below wB.heap.size wB wJ → Lib.BuilderAtF 77 5 B b (.pointer (some ⟨b, 0, none⟩)) (bs ++ Lib.strCells ⟨(Lib.join [kindWord k2, nm.data.toList, Lib.itoa c1, Lib.itoa c2] [32] ++ [10]).toArray⟩) w' → Below B wJ w' → Lib.OthersKept 5 (some b) wJ w' → Q .normal { tmps := #[t0, t1, t2, (.pointer (some ⟨b, 0, none⟩)), t4, (.pointer (some ⟨kb, 0, none⟩)), (.string nm), (.pointer (some ⟨cb, 0, none⟩)), t8, t9, t10, t11, t12, t13, t14, t15, t16, t17, t18, t19, t20, t21, t22, t23, t24, t25, t26, t27, t28, t29, t30, t31, t32, r33, r34, r35, r36, r37, r38, r39, r40, r41, r42, r43, r44, r45, r46, r47, t48, t49, t50, t51, t52, t53, t54, t55, t56, t57, t58, t59, t60, t61, t62, t63, t64, t65, t66, t67, t68], defers := [] } w') :
    (Code.region 11 ops11 true).wp Tryz.prog Q { tmps := #[t0, t1, t2, (.pointer (some ⟨b, 0, none⟩)), t4, (.pointer (some ⟨kb, 0, none⟩)), (.string nm), (.pointer (some ⟨cb, 0, none⟩)), t8, t9, t10, t11, t12, t13, t14, t15, t16, t17, t18, t19, t20, t21, t22, t23, t24, t25, t26, t27, t28, t29, t30, t31, t32, t33, t34, t35, t36, t37, t38, t39, t40, t41, t42, t43, t44, t45, t46, t47, t48, t49, t50, t51, t52, t53, t54, t55, t56, t57, t58, t59, t60, t61, t62, t63, t64, t65, t66, t67, t68], defers := [] } wB := by
  have hH : Below wB.heap.size wB wB.drew := (Below.refl _ _).drew
  have hk := range_of_heap hkH
  have hc := range_of_heap hcH
  have hkb := lt_of_row hk rfl
  have hcb := lt_of_row hc rfl
  have kK : ∀ W', Below wB.heap.size wB W' → W'.cell? ⟨kb, 1, none⟩ = some (.int .i64 k2) := fun W' hW => (keepS hk hkb hW).2 1 _ rfl
  have kC : ∀ W', Below wB.heap.size wB W' → W'.cell? ⟨cb, 0, none⟩ = some (.int .i64 c1) ∧ W'.cell? ⟨cb, 1, none⟩ = some (.int .i64 c2) := fun W' hW => ⟨(keepS hc hcb hW).2 0 _ rfl, (keepS hc hcb hW).2 1 _ rfl⟩
  refine wp_region_held_drew (S := fun W' => W'.cell? ⟨kb, 1, none⟩ = some (.int .i64 k2) ∧ W'.cell? ⟨cb, 0, none⟩ = some (.int .i64 c1) ∧ W'.cell? ⟨cb, 1, none⟩ = some (.int .i64 c2)) (by kernel_rfl) ⟨kK _ hH, kC _ hH⟩ (fun hS0 => ?_)
  refine wpAnyH_take (i := 1) (oi := { dst := some 34, op := Op.fieldAddr 64 (Operand.tmp 5) 1, type := 0, pos := "stats.go:280", after := #[], guard := none }) (v := (.pointer (some ⟨kb, 1, none⟩))) rfl (by kernel_rfl) (by kernel_rfl) (by kernel_rfl) (fun _ _ _ h => hP _ _ _ _ h) (Or.inl ⟨by rfl, fun w hSw => by go_simp⟩) hS0 ?_
  try simp only [Act.put, List.setIfInBounds_toArray, List.set_cons_zero, List.set_cons_succ]
  refine wpAnyH_take (i := 2) (oi := { dst := some 35, op := Op.load 3 (Operand.tmp 34), type := 3, pos := "stats.go:280", after := #[{ on := 1, ground := Ground.data }], guard := none }) (v := (.int .i64 k2)) rfl (by kernel_rfl) (by kernel_rfl) (by kernel_rfl) (fun _ _ _ h => hP _ _ _ _ h) (Or.inl ⟨by rfl, fun W' hW' => by obtain ⟨q1, q2, q3⟩ := hW'; go_simp⟩) hS0 ?_
  try simp only [Act.put, List.setIfInBounds_toArray, List.set_cons_zero, List.set_cons_succ]
  refine wpAnyH_take (i := 4) (oi := { dst := some 37, op := Op.move (Operand.tmp 6), type := 9, pos := "stats.go:280", after := #[], guard := none }) (v := (.string nm)) rfl (by kernel_rfl) (by kernel_rfl) (by kernel_rfl) (fun _ _ _ h => hP _ _ _ _ h) (Or.inl ⟨by rfl, fun w hSw => by go_simp⟩) hS0 ?_
  try simp only [Act.put, List.setIfInBounds_toArray, List.set_cons_zero, List.set_cons_succ]
  refine wpAnyH_take (i := 5) (oi := { dst := some 38, op := Op.fieldAddr 34 (Operand.tmp 7) 0, type := 0, pos := "stats.go:280", after := #[], guard := none }) (v := (.pointer (some ⟨cb, 0, none⟩))) rfl (by kernel_rfl) (by kernel_rfl) (by kernel_rfl) (fun _ _ _ h => hP _ _ _ _ h) (Or.inl ⟨by rfl, fun w hSw => by go_simp⟩) hS0 ?_
  try simp only [Act.put, List.setIfInBounds_toArray, List.set_cons_zero, List.set_cons_succ]
  refine wpAnyH_take (i := 6) (oi := { dst := some 39, op := Op.load 3 (Operand.tmp 38), type := 3, pos := "stats.go:280", after := #[{ on := 5, ground := Ground.data }], guard := none }) (v := (.int .i64 c1)) rfl (by kernel_rfl) (by kernel_rfl) (by kernel_rfl) (fun _ _ _ h => hP _ _ _ _ h) (Or.inl ⟨by rfl, fun W' hW' => by obtain ⟨q1, q2, q3⟩ := hW'; go_simp⟩) hS0 ?_
  try simp only [Act.put, List.setIfInBounds_toArray, List.set_cons_zero, List.set_cons_succ]
  refine wpAnyH_take (i := 8) (oi := { dst := some 41, op := Op.fieldAddr 34 (Operand.tmp 7) 1, type := 0, pos := "stats.go:280", after := #[], guard := none }) (v := (.pointer (some ⟨cb, 1, none⟩))) rfl (by kernel_rfl) (by kernel_rfl) (by kernel_rfl) (fun _ _ _ h => hP _ _ _ _ h) (Or.inl ⟨by rfl, fun w hSw => by go_simp⟩) hS0 ?_
  try simp only [Act.put, List.setIfInBounds_toArray, List.set_cons_zero, List.set_cons_succ]
  refine wpAnyH_take (i := 9) (oi := { dst := some 42, op := Op.load 3 (Operand.tmp 41), type := 3, pos := "stats.go:280", after := #[{ on := 8, ground := Ground.data }], guard := none }) (v := (.int .i64 c2)) rfl (by kernel_rfl) (by kernel_rfl) (by kernel_rfl) (fun _ _ _ h => hP _ _ _ _ h) (Or.inl ⟨by rfl, fun W' hW' => by obtain ⟨q1, q2, q3⟩ := hW'; go_simp⟩) hS0 ?_
  try simp only [Act.put, List.setIfInBounds_toArray, List.set_cons_zero, List.set_cons_succ]
  refine wpAnyH_ready (rs := [0]) (by kernel_rfl) (by simp) ?_
  refine AllReadyH.cons (o := { dst := some 33, op := Op.call { callee := Callee.value (Operand.func 41), args := #[], argTypes := #[] }, type := 84, pos := "stats.go:280", after := #[], guard := none }) rfl (fun K hK => ?_) AllReadyH.nil
  go_simp
  go_at_call 41
  refine (words_any _).mono ?_
  rintro e w1 ⟨rfl, hbx⟩
  have hb1 := hH.trans (hbx.mono hH.size)
  have hShb1 := And.intro (kK _ hb1) (kC _ hb1)
  clear hbx
  refine hK.out _ _ hShb1 (fun _ => ?_)
  clear hK
  try simp only [Act.put, List.setIfInBounds_toArray, List.set_cons_zero, List.set_cons_succ]
  refine wpAnyH_take (i := 3) (oi := { dst := some 36, op := Op.index 84 (Operand.tmp 33) (Operand.tmp 35), type := 9, pos := "stats.go:280", after := #[{ on := 0, ground := Ground.data }, { on := 2, ground := Ground.data }], guard := none }) (v := (bytesV (kindWord k2))) rfl (by kernel_rfl) (by kernel_rfl) (by kernel_rfl) (fun _ _ _ h => hP _ _ _ _ h) (Or.inl ⟨by rfl, fun W' hW' => by have hix := Tryz.idxW k2 hk2.1 hk2.2 W'; go_simp⟩) hShb1 ?_
  try simp only [Act.put, List.setIfInBounds_toArray, List.set_cons_zero, List.set_cons_succ]
  refine wpAnyH_ready (rs := [7]) (by kernel_rfl) (by simp) ?_
  refine AllReadyH.cons (o := { dst := some 40, op := Op.call { callee := Callee.value (Operand.func 38), args := #[Operand.tmp 39], argTypes := #[3] }, type := 9, pos := "stats.go:280", after := #[{ on := 6, ground := Ground.data }, { on := 0, ground := Ground.chain }], guard := none }) rfl (fun K hK => ?_) AllReadyH.nil
  go_simp
  go_at_call 38
  refine (itoa_any c1 _ (hT.below hb1) (by omega) (by omega)).mono ?_
  rintro e w2 ⟨rfl, hbx⟩
  have hb2 := hb1.trans (hbx.mono hb1.size)
  have hShb2 := And.intro (kK _ hb2) (kC _ hb2)
  clear hbx
  refine hK.out _ _ hShb2 (fun _ => ?_)
  clear hK
  try simp only [Act.put, List.setIfInBounds_toArray, List.set_cons_zero, List.set_cons_succ]
  refine wpAnyH_ready (rs := [10]) (by kernel_rfl) (by simp) ?_
  refine AllReadyH.cons (o := { dst := some 43, op := Op.call { callee := Callee.value (Operand.func 38), args := #[Operand.tmp 42], argTypes := #[3] }, type := 9, pos := "stats.go:280", after := #[{ on := 9, ground := Ground.data }, { on := 7, ground := Ground.chain }], guard := none }) rfl (fun K hK => ?_) AllReadyH.nil
  go_simp
  go_at_call 38
  refine (itoa_any c2 _ (hT.below hb2) (by omega) (by omega)).mono ?_
  rintro e w3 ⟨rfl, hbx⟩
  have hb3 := hb2.trans (hbx.mono hb2.size)
  have hShb3 := And.intro (kK _ hb3) (kC _ hb3)
  clear hbx
  refine hK.out _ _ hShb3 (fun _ => ?_)
  clear hK
  try simp only [Act.put, List.setIfInBounds_toArray, List.set_cons_zero, List.set_cons_succ]
  refine wpAnyH_ready (rs := [11]) (by kernel_rfl) (by simp) ?_
  refine AllReadyH.cons (o := { dst := some 44, op := Op.buildSlice 25 4 #[(0, Operand.tmp 36), (1, Operand.tmp 37), (2, Operand.tmp 40), (3, Operand.tmp 43)], type := 25, pos := "stats.go:280", after := #[{ on := 3, ground := Ground.data }, { on := 4, ground := Ground.data }, { on := 7, ground := Ground.data }, { on := 10, ground := Ground.data }], guard := none }) rfl (fun K hK => ?_) AllReadyH.nil
  go_simp
  have hb4 := hb3.alloc hb3.size (.cells #[bytesV (kindWord k2), .string nm, bytesV (Lib.itoa c1), bytesV (Lib.itoa c2)] 9)
  have hS4 := And.intro (kK _ hb4) (kC _ hb4)
  refine hK.out _ _ hS4 (fun _ => ?_)
  clear hK
  try simp only [Act.put, List.setIfInBounds_toArray, List.set_cons_zero, List.set_cons_succ]
  obtain ⟨w4, hw4⟩ : ∃ w4, w4 = w3.alloc (.cells #[bytesV (kindWord k2), .string nm, bytesV (Lib.itoa c1), bytesV (Lib.itoa c2)] 9) := ⟨_, rfl⟩
  have hj := Tryz.strings_Join w3.heap.size 0 4 [⟨(kindWord k2).toArray⟩, nm, ⟨(Lib.itoa c1).toArray⟩, ⟨(Lib.itoa c2).toArray⟩] ⟨#[32]⟩ w4 (fun j x hx => by
    rw [hw4, cell_of_row _ _ _ _ _ _ (heap_alloc_new w3 _), Nat.zero_add]
    rcases j with _ | _ | _ | _ | j
    · simp at hx; subst hx; rfl
    · simp at hx; subst hx; rfl
    · simp at hx; subst hx; rfl
    · simp at hx; subst hx; rfl
    · simp at hx) (by rw [hw4]; simp) (by simp) (by simp) (by
      have e1 : (Lib.join (([⟨(kindWord k2).toArray⟩, nm, ⟨(Lib.itoa c1).toArray⟩, ⟨(Lib.itoa c2).toArray⟩] : List ByteArray).map (·.data.toList)) (⟨#[32]⟩ : ByteArray).data.toList) = Lib.join [kindWord k2, nm.data.toList, Lib.itoa c1, Lib.itoa c2] [32] := by simp
      rw [e1]; omega)
  have e1 : (Lib.join (([⟨(kindWord k2).toArray⟩, nm, ⟨(Lib.itoa c1).toArray⟩, ⟨(Lib.itoa c2).toArray⟩] : List ByteArray).map (·.data.toList)) (⟨#[32]⟩ : ByteArray).data.toList) = Lib.join [kindWord k2, nm.data.toList, Lib.itoa c1, Lib.itoa c2] [32] := by simp
  rw [e1] at hj
  obtain ⟨J, hJ⟩ : ∃ J, J = Lib.join [kindWord k2, nm.data.toList, Lib.itoa c1, Lib.itoa c2] [32] := ⟨_, rfl⟩
  rw [← hJ] at hj hjl hQ
  rw [← hw4] at hb4 ⊢
  have hj' := Lib.hid hj
  have hw4' := Lib.hid hw4
  have hJ' := Lib.hid hJ
  clear hj e1 hw4 hJ
  refine wpAnyH_ready (rs := [12]) (by kernel_rfl) (by simp) ?_
  refine AllReadyH.cons (o := { dst := some 45, op := Op.call { callee := Callee.value (Operand.func 40), args := #[Operand.tmp 44, Operand.const (Value.string { data := #[32] })], argTypes := #[25, 9] }, type := 9, pos := "stats.go:280", after := #[{ on := 11, ground := Ground.data }, { on := 10, ground := Ground.chain }], guard := none }) rfl (fun K hK => ?_) AllReadyH.nil
  go_simp
  go_at_call 40
  refine hj'.out.mono ?_
  rintro e w5 ⟨rfl, hbx⟩
  have hb5 := hb4.trans (hbx.mono hb4.size)
  have hS5 := And.intro (kK _ hb5) (kC _ hb5)
  clear hbx
  refine hK.out _ _ hS5 (fun _ => ?_)
  clear hK
  try simp only [Act.put, List.setIfInBounds_toArray, List.set_cons_zero, List.set_cons_succ]
  refine wpAnyH_take (i := 13) (oi := { dst := some 46, op := Op.binOp BinOp.add 9 (Operand.tmp 45) (Operand.const (Value.string { data := #[10] })) 9, type := 9, pos := "stats.go:280", after := #[{ on := 12, ground := Ground.data }], guard := none }) (v := (bytesV (J ++ [10]))) rfl (by kernel_rfl) (by kernel_rfl) (by kernel_rfl) (fun _ _ _ h => hP _ _ _ _ h) (Or.inl ⟨by rfl, fun W' hW' => by have hadd := add_nl J (by omega) W'; clear hW'; go_simp⟩) hS5 ?_
  try simp only [Act.put, List.setIfInBounds_toArray, List.set_cons_zero, List.set_cons_succ]
  have hw := writeString_any B b bs ⟨(J ++ [10]).toArray⟩ w5 (builder_below hbd hb5) (by have h1 := bsize (J ++ [10]); rw [List.length_append] at h1; simp at h1 ⊢; omega) (by have := hb5.size; omega)
  have hw2 := Lib.hid hw
  clear hw
  refine wpAnyH_ready (rs := [14]) (by kernel_rfl) (by simp) ?_
  refine AllReadyH.cons (o := { dst := some 47, op := Op.call { callee := Callee.value (Operand.func 39), args := #[Operand.tmp 3, Operand.tmp 46], argTypes := #[77, 9] }, type := 81, pos := "stats.go:280", after := #[{ on := 13, ground := Ground.data }, { on := 12, ground := Ground.chain }], guard := none }) rfl (fun K hK => ?_) AllReadyH.nil
  go_simp
  go_at_call 39
  refine hw2.out.mono ?_
  rintro e w6 ⟨rfl, hbd6, hbe6, hot6⟩
  have hS6 : w6.cell? ⟨kb, 1, none⟩ = some (.int .i64 k2) ∧ w6.cell? ⟨cb, 0, none⟩ = some (.int .i64 c1) ∧ w6.cell? ⟨cb, 1, none⟩ = some (.int .i64 c2) := by
    have g1 := others_cell hot6 (builder_below hbd hb5) ((hb5.block _ hkb).trans hkH) (by decide) (by decide)
    have g2 := others_cell hot6 (builder_below hbd hb5) ((hb5.block _ hcb).trans hcH) (by decide) (by decide)
    exact ⟨range_of_heap g1 1 _ rfl, range_of_heap g2 0 _ rfl, range_of_heap g2 1 _ rfl⟩
  refine hK.out _ _ hS6 (fun _ => ?_)
  clear hK
  try simp only [Act.put, List.setIfInBounds_toArray, List.set_cons_zero, List.set_cons_succ]
  refine wpAnyH_done (by kernel_rfl) ?_ _
  dsimp only at hQ
  exact hQ w5 w6 _ _ _ _ _ _ _ _ _ _ _ _ _ _ _ hb5 hbd6 hbe6 hot6
end Go.Proofs.YtlemadbmlnjhpaaGreatDoor
namespace Go.Proofs.YtlemadbmlnjhpaaGreatDoor
open Go Go.RowKit Go.Proofs
set_option linter.unusedSimpArgs false
set_option linter.unusedVariables false

theorem SliceKey.others {w w' : World} {v : Value} {ks : List Key} {b : Nat} {c : Array Value} (h : SliceKey w v ks) (ho : Lib.OthersKept 5 (some b) w w') (hb : w.heap[b]? = some (.cells c 77 (0, 0))) : SliceKey w' v ks := by
  obtain ⟨A, cc, h1, h2, h3, h4⟩ := h
  have key : ∀ bb o, A = some ⟨bb, o, none⟩ → w'.heap[bb]? = w.heap[bb]? := fun bb o hA => by
    obtain ⟨cs, hc⟩ := h4 bb o hA
    rw [hc]
    refine ho bb _ hc (fun he => ?_) (fun c fz he => absurd (Obj.cells.inj he).2.1 (by decide))
    cases he
    rw [hb] at hc
    exact absurd (Obj.cells.inj (Option.some.inj hc)).2.1 (by decide)
  refine ⟨A, cc, h1, h2, fun k x hk => ?_, fun bb o hA => ?_⟩
  · obtain ⟨bb, o, e1, e2⟩ := h3 k x hk
    exact ⟨bb, o, e1, fun j u hj => (World.cell?_of_block (key bb o e1)).trans (e2 j u hj)⟩
  · obtain ⟨cs, hc⟩ := h4 bb o hA
    exact ⟨cs, (key bb o hA).trans hc⟩
theorem strCells_mk (l : List UInt8) : Lib.strCells ⟨l.toArray⟩ = Lib.byteCells l := by simp [Lib.strCells, Lib.byteCells]
theorem byteCells_app (l m : List UInt8) : Lib.byteCells (l ++ m) = Lib.byteCells l ++ Lib.byteCells m := by simp [Lib.byteCells]

/-- between two lines -/
structure TextAt (w wr : World) (sv : Value) (ks : List Key) (l : List UInt8) : Prop where
  bel : Below w.heap.size w wr
  key : SliceKey wr sv ks
  bd : Lib.IsBuilderF 77 5 w.heap.size w.heap.size (Lib.byteCells l) wr
theorem TextAt.below {w wr w' : World} {sv : Value} {ks : List Key} {l : List UInt8} (h : TextAt w wr sv ks l) (hb : Below wr.heap.size wr w') : TextAt w w' sv ks l :=
  ⟨h.bel.trans (hb.mono h.bel.size), h.key.below hb, builder_below h.bd hb⟩
theorem TextAt.line {w wJ w' : World} {sv : Value} {ks : List Key} {l m : List UInt8} (h : TextAt w wJ sv ks l) (hbd : Lib.BuilderAtF 77 5 w.heap.size w.heap.size (.pointer (some ⟨w.heap.size, 0, none⟩)) (Lib.byteCells l ++ Lib.strCells ⟨m.toArray⟩) w')
    (hb : Below w.heap.size wJ w') (ho : Lib.OthersKept 5 (some w.heap.size) wJ w') : TextAt w w' sv ks (l ++ m) := by
  obtain ⟨cs, hc⟩ := builder_block h.bd
  refine ⟨h.bel.trans hb, h.key.others ho hc, .inr ?_⟩
  rw [byteCells_app, ← strCells_mk m]; exact hbd

set_option maxRecDepth 100000 in
set_option maxHeartbeats 3200000 in
theorem text_any (sb m : Nat) (L : List (Key × Cnt)) (zs : List Int) (w : World) (h : StatsAt w sb m L zs) (hT : Tab w) (hl : L.length ≤ 100000) (hb : Bnd L) (hko : KeysOk L) (hz : SzN zs 1000000000) :
    Calls Tryz.prog 20 #[.pointer (some ⟨sb, 0, none⟩)] w fun e w' => e = .returned (bytesV (textK L zs)) ∧ Below w.heap.size w w' := by
  obtain ⟨w0, hw0⟩ : ∃ w0, w0 = w.alloc (.cells #[.pointer none, .slice none 0 0] 77) := ⟨_, rfl⟩
  have hb0 : Below w.heap.size w w0 := by rw [hw0]; exact (Below.refl _ _).alloc (Nat.le_refl _) _
  have hs0 : w0.heap.size = w.heap.size + 1 := by rw [hw0]; simp
  have hbd0 : Lib.IsBuilderF 77 5 w.heap.size w.heap.size [] w0 := Lib.IsBuilderF.of (.inl ⟨Nat.le_refl _, .slice none 0 0, by rw [hw0]; exact heap_alloc_new w _, World.ownsRow_nil _ _ _ _, by simp [Value.ownBlock]⟩)
  have hso := sorted_any sb m L zs w0 (h.below hb0) (by omega)
  obtain ⟨ks, hks⟩ : ∃ ks, ks = sortK (L.map Prod.fst) := ⟨_, rfl⟩
  rw [← hks] at hso
  have hkl : ks.length = L.length := by rw [hks, sortK_length, List.length_map]
  have hkok : ∀ x ∈ ks, KeyOk x := fun x hx => by
    rw [hks] at hx
    obtain ⟨q, hq, rfl⟩ := List.mem_map.1 ((sortK_perm _).mem_iff.1 hx)
    exact hko q hq
  have hso' := Lib.hid hso
  have hks' := Lib.hid hks
  have hw0' := Lib.hid hw0
  have hkok' := Lib.hid hkok
  have hT' := Lib.hid hT
  have h' := Lib.hid h
  have hbd0' := Lib.hid hbd0
  have hb0' := Lib.hid hb0
  have hbn := Lib.hid hb
  have hkl' := Lib.hid hkl
  have hz' := Lib.hid hz
  have hl1 : ks.length ≤ 100000 := by omega
  clear hso hks hw0 hkok hT h hbd0 hb0 hs0 hb hz hko hkl hl
  go_enter Tryz.func20, Tryz.ntmps20
  go_wp2_with (go_at_call 36; fail)
  rw [← hw0'.out]
  refine hso'.out.mono ?_
  rintro e w1 ⟨sv, rfl, hsk, hb1⟩
  have hsk' := Lib.hid hsk
  obtain ⟨A, c, rfl, hkm, _, _⟩ := hsk
  have hA0 : TextAt w w1 (.slice A ks.length c) ks [] := ⟨hb0'.out.trans (hb1.mono hb0'.out.size), hsk'.out, builder_below hbd0'.out hb1⟩
  have hA0' := Lib.hid hA0
  clear hb1 hA0
  go_wp2_with fail
  go_loopw [15] (fun i wr => ∃ k : Nat, k ≤ ks.length ∧ i = .int .i64 k ∧ TextAt w wr (.slice A ks.length c) ks (linesK (ks.take k) L)) (fun i _ => ks.length - (intOf i).toNat)
  case atStart => exact ⟨0, by omega, rfl, hA0'.out⟩
  case round =>
    obtain ⟨k, hk0, rfl, hA⟩ := hrel
    have hA' := Lib.hid hA
    clear hA
    by_cases hk : k < ks.length
    · obtain ⟨x, hx⟩ : ∃ x, ks[k]? = some x := ⟨_, List.getElem?_eq_getElem hk⟩
      obtain ⟨A2, c2', hform, _, hcells, _⟩ := hA'.out.key
      cases hform
      obtain ⟨kbb, ko, rfl, hrg⟩ := hcells k x hx
      have hko := hkok'.out x (List.mem_of_getElem? hx)
      have hnext : Hid (linesK (ks.take (k + 1)) L = linesK (ks.take k) L ++ lineK x (getL x L)) := by show _ = _; rw [take_some hx, linesK_snoc]
      have hlen : (linesK (ks.take k) L).length ≤ 1200 * k := by
        have := linesK_len hbn.out _ (ks.take k) rfl (fun y hy => hkok'.out y (List.mem_of_mem_take hy))
        rw [List.length_take, Nat.min_eq_left hk0] at this; exact this
      obtain ⟨g1, g2, g3, g4⟩ := getL_bound (k := x) hbn.out
      have hjl := join_lineK hko ⟨g1, g2⟩ ⟨g3, g4⟩
      obtain ⟨cc, hcc⟩ : ∃ cc, cc = getL x L := ⟨_, rfl⟩
      rw [← hcc] at hnext g1 g2 g3 g4 hjl
      obtain ⟨c1, c2⟩ := cc
      obtain ⟨k1, k2, k3⟩ := x
      obtain ⟨⟨q1, q2⟩, ⟨q3, q4⟩, q5⟩ := hko
      obtain ⟨l, hl0⟩ : ∃ l, l = linesK (ks.take k) L := ⟨_, rfl⟩
      rw [← hl0] at hA' hnext hlen
      have hrg2 : wr.rangeAt kbb (ko + k * 3) [.int .i64 k1, .int .i64 k2, .string k3] := hrg
      have hrg' := Lib.hid hrg2
      have hcc' := Lib.hid hcc.symm
      have hjl' := Lib.hid hjl
      have hlen' := Lib.hid hlen
      clear hrg hrg2 hcells hx hl0 hcc hjl hlen
      -- the world with the key's variable
      obtain ⟨W, hW⟩ : ∃ W, W = wr.alloc (.cells #[.int .i64 k1, .int .i64 k2, .string k3] 64) := ⟨_, rfl⟩
      have hAW : TextAt w W (.slice (some ⟨kbb, ko, none⟩) ks.length c) ks l := hA'.out.below (by rw [hW]; exact (Below.refl _ _).alloc (Nat.le_refl _) _)
      have hkH : W.heap[wr.heap.size]? = some (.cells #[.int .i64 k1, .int .i64 k2, .string k3] 64 (0, 0)) := by rw [hW]; exact heap_alloc_new wr _
      have hAW' := Lib.hid hAW
      have hkH' := Lib.hid hkH
      have hW' := Lib.hid hW
      clear hAW hkH hW
      by_cases h0 : k2 = 0
      · subst h0
        have hnm : keyName (k1, 0, k3) = Lib.itoa k1 := rfl
        have hnm' := Lib.hid hnm
        clear hnm
        go_wp2_with (first | (refine wpList_load_mid rfl 64 _ rfl kbb (ko + k * 3) rfl _ _ hrg'.out Tryz.underlying64 rfl rfl ?_) | (go_at_call 38; fail))
        rw [← hW'.out]
        refine (itoa_any k1 W (hT'.out.below hAW'.out.bel) (by omega) (by omega)).mono ?_
        rintro e wA ⟨rfl, hbA⟩
        have hAA' := Lib.hid (hAW'.out.below hbA)
        have hkA' := Lib.hid ((hbA.block _ (Array.getElem?_eq_some_iff.1 hkH'.out).1).trans hkH'.out)
        clear hbA
        go_wp2_with fail
        have hreg10 := Lib.hid (text_region10 sb m wr.heap.size L zs k1 0 k3 c1 c2 wA)
        have hstA := h'.out.below hAA'.out.bel
        have hkbA : wr.heap.size < wA.heap.size := (Array.getElem?_eq_some_iff.1 hkA'.out).1
        have hstA' := Lib.hid hstA
        have hkbA' := Lib.hid hkbA
        clear hstA hkbA
        refine wp_region_noPanic ?_
        refine hreg10.out _ _ _ _ _ _ _ _ _ _ _ _ _ _ _ _ _ _ _ _ _ _ _ _ _ _ _ _ _ _ _ _ _ _ _ _ _ _ _ _ _ _ _ _ _ _ _ _ _ _ _ _ _ _ _ _ _ _ _ _ _ _ _ _ _ _ _ _ (fun _ _ _ _ h => h) hstA'.out (range_of_heap hkA'.out) hkbA'.out hcc'.out ?_
        intro wC r27 r28 r29 r30 r31 r32 hbC hcC
        refine NoPanic.normal ?_
        have hAC' := Lib.hid (hAA'.out.below hbC)
        have hkC' := Lib.hid ((hbC.block _ hkbA'.out).trans hkA'.out)
        have hcC' := Lib.hid hcC
        have hreg11 := Lib.hid (text_region11 w.heap.size wr.heap.size wA.heap.size w.heap.size k1 0 k3 ⟨(Lib.itoa k1).toArray⟩ c1 c2 (Lib.byteCells l) wC)
        clear hreg10 hbC hcC
        go_wp2_with fail
        refine wp_region_noPanic ?_
        refine hreg11.out _ _ _ _ _ _ _ _ _ _ _ _ _ _ _ _ _ _ _ _ _ _ _ _ _ _ _ _ _ _ _ _ _ _ _ _ _ _ _ _ _ _ _ _ _ _ _ _ _ _ _ _ _ _ _ _ _ _ _ _ _ _ _ _ _ _ (fun _ _ _ _ h => h) hkC'.out hcC'.out (hT'.out.below hAC'.out.bel) (by omega) ⟨g1, g2⟩ ⟨g3, g4⟩ hAC'.out.bd (by have := hAC'.out.bel.size; omega) (Nat.le_trans (by have := hjl'.out; rw [hnm'.out] at this; exact this) (by decide : 1100 ≤ 10000)) (by rw [Lib.byteCells_length]; have := hlen'.out; omega) ?_
        intro wJ w' r33 r34 r35 r36 r37 r38 r39 r40 r41 r42 r43 r44 r45 r46 r47 hbJ hbdw hbe hot
        refine NoPanic.normal ?_
        have hAF' := Lib.hid ((hAC'.out.below hbJ).line hbdw hbe hot)
        clear hreg11 hbJ hbdw hbe hot
        go_wp2_with fail
        refine ⟨⟨k + 1, by omega, by go_num, ?_⟩, by simp [intOf]; omega⟩
        rw [hnext.out]
        have hF := hAF'.out
        unfold lineK
        rw [hnm'.out]
        simpa using hF
      · have hnm : keyName (k1, k2, k3) = k3.data.toList := if_neg h0
        have hnm' := Lib.hid hnm
        have hq0 : (k2 == 0) = false := beq_eq_false_iff_ne.2 h0
        clear hnm
        go_wp2_with (first | (refine wpList_load_mid rfl 64 _ rfl kbb (ko + k * 3) rfl _ _ hrg'.out Tryz.underlying64 rfl rfl ?_))
        rw [← hW'.out]
        obtain ⟨wA, hwA⟩ : ∃ wA, wA = W := ⟨_, rfl⟩
        rw [← hwA]
        have hAA' := Lib.hid (hwA ▸ hAW'.out)
        have hkA' : Hid (wA.heap[wr.heap.size]? = some (.cells #[.int .i64 k1, .int .i64 k2, .string k3] 64 (0, 0))) := by show _ = _; rw [hwA]; exact hkH'.out
        clear hwA
        have hreg10 := Lib.hid (text_region10 sb m wr.heap.size L zs k1 k2 k3 c1 c2 wA)
        have hstA := h'.out.below hAA'.out.bel
        have hkbA : wr.heap.size < wA.heap.size := (Array.getElem?_eq_some_iff.1 hkA'.out).1
        have hstA' := Lib.hid hstA
        have hkbA' := Lib.hid hkbA
        clear hstA hkbA
        refine wp_region_noPanic ?_
        refine hreg10.out _ _ _ _ _ _ _ _ _ _ _ _ _ _ _ _ _ _ _ _ _ _ _ _ _ _ _ _ _ _ _ _ _ _ _ _ _ _ _ _ _ _ _ _ _ _ _ _ _ _ _ _ _ _ _ _ _ _ _ _ _ _ _ _ _ _ _ _ (fun _ _ _ _ h => h) hstA'.out (range_of_heap hkA'.out) hkbA'.out hcc'.out ?_
        intro wC r27 r28 r29 r30 r31 r32 hbC hcC
        refine NoPanic.normal ?_
        have hAC' := Lib.hid (hAA'.out.below hbC)
        have hkC' := Lib.hid ((hbC.block _ hkbA'.out).trans hkA'.out)
        have hcC' := Lib.hid hcC
        have hreg11 := Lib.hid (text_region11 w.heap.size wr.heap.size wA.heap.size w.heap.size k1 k2 k3 k3 c1 c2 (Lib.byteCells l) wC)
        clear hreg10 hbC hcC
        go_wp2_with fail
        refine wp_region_noPanic ?_
        refine hreg11.out _ _ _ _ _ _ _ _ _ _ _ _ _ _ _ _ _ _ _ _ _ _ _ _ _ _ _ _ _ _ _ _ _ _ _ _ _ _ _ _ _ _ _ _ _ _ _ _ _ _ _ _ _ _ _ _ _ _ _ _ _ _ _ _ _ _ (fun _ _ _ _ h => h) hkC'.out hcC'.out (hT'.out.below hAC'.out.bel) (by omega) ⟨g1, g2⟩ ⟨g3, g4⟩ hAC'.out.bd (by have := hAC'.out.bel.size; omega) (Nat.le_trans (by have := hjl'.out; rw [hnm'.out] at this; exact this) (by decide : 1100 ≤ 10000)) (by rw [Lib.byteCells_length]; have := hlen'.out; omega) ?_
        intro wJ w' r33 r34 r35 r36 r37 r38 r39 r40 r41 r42 r43 r44 r45 r46 r47 hbJ hbdw hbe hot
        refine NoPanic.normal ?_
        have hAF' := Lib.hid ((hAC'.out.below hbJ).line hbdw hbe hot)
        clear hreg11 hbJ hbdw hbe hot
        go_wp2_with fail
        refine ⟨⟨k + 1, by omega, by go_num, ?_⟩, by simp [intOf]; omega⟩
        rw [hnext.out]
        have hF := hAF'.out
        unfold lineK
        rw [hnm'.out]
        exact hF
    · obtain rfl : k = ks.length := by omega
      rw [List.take_length] at hA'
      obtain ⟨cs, hcs⟩ : ∃ cs, cs = zs.map (Value.int .i64) := ⟨_, rfl⟩
      have hstR := h'.out.below hA'.out.bel
      have hrg : wr.rangeAt sb 1 cs := by rw [hcs]; exact hstR.range
      have hcl : (Tryz.prog.info? 41).map (·.size) = some cs.length := by rw [hcs, List.length_map, hstR.2.1]; exact Tryz.sizeArr
      have hix := Tryz.index_arr zs hstR.2.1
      rw [← hcs] at hix
      have hzl : zs.length = 18 := hstR.2.1
      have hrg' := Lib.hid hrg
      have hcl' := Lib.hid hcl
      have hix' := Lib.hid hix
      have hzl' := Lib.hid hzl
      have hlenK : (linesK ks L).length ≤ 1200 * ks.length := linesK_len hbn.out _ ks rfl hkok'.out
      obtain ⟨lk, hlk⟩ : ∃ lk, lk = linesK ks L := ⟨_, rfl⟩
      rw [← hlk] at hA' hlenK
      have hlk' := Lib.hid hlk
      have hA0 : TextAt w wr (.slice A ks.length c) ks (lk ++ linesZ zs 0) := by have := hA'.out; simpa [linesZ] using this
      have hAz' := Lib.hid hA0
      clear hrg hcl hix hzl hstR hcs hlk hA0
      go_wp2_with (refine wpList_load_mid rfl 41 _ rfl sb 1 rfl cs _ hrg'.out Tryz.underlying41 rfl hcl'.out ?_)
      go_loopw [53] (fun i wq => ∃ n : Nat, n ≤ 18 ∧ i = .int .i64 n ∧ TextAt w wq (.slice A ks.length c) ks (lk ++ linesZ zs n)) (fun i _ => 18 - (intOf i).toNat)
      case atStart => exact ⟨0, by omega, rfl, hAz'.out⟩
      case round =>
        obtain ⟨n, hn0, rfl, hB⟩ := hrel
        have hB' := Lib.hid hB
        clear hB
        by_cases hn : n < 18
        · have hi0 := hix'.out n hn
          obtain ⟨z, hzz⟩ : ∃ z, z = zs.getD n 0 := ⟨_, rfl⟩
          rw [← hzz] at hi0
          have hzb : 0 ≤ z ∧ z ≤ 1000000000 := by
            have hm : z ∈ zs := by rw [hzz, List.getD_eq_getElem?_getD, List.getElem?_eq_getElem (by have := hzl'.out; omega), Option.getD_some]; exact List.getElem_mem _
            exact hz'.out z hm
          have hnext : Hid (linesZ zs (n + 1) = linesZ zs n ++ (if 0 < z then lineZ n z else [])) := by show _ = _; rw [linesZ_succ, lineZ0, hzz]
          have hzlen := linesZ_len hz'.out n (by omega)
          obtain ⟨lz, hlz⟩ : ∃ lz, lz = linesZ zs n := ⟨_, rfl⟩
          rw [← hlz] at hB' hnext hzlen
          obtain ⟨hzb1, hzb2⟩ := hzb
          clear hzz hlz
          by_cases hpos : 0 < z
          · rw [if_pos hpos] at hnext
            have hjl := join_lineZ (i := n) (n := z) (by omega) ⟨by omega, by omega⟩
            go_wp2_with (go_at_call 38; fail)
            refine (itoa_any n wr (hT'.out.below hB'.out.bel) (by omega) (by omega)).mono ?_
            rintro e w2 ⟨rfl, hb2⟩
            have hB2 := Lib.hid (hB'.out.below hb2)
            clear hb2
            go_wp2_with (go_at_call 38; fail)
            refine (itoa_any z w2 (hT'.out.below hB2.out.bel) (by omega) (by omega)).mono ?_
            rintro e w3 ⟨rfl, hb3⟩
            have hB3 := Lib.hid (hB2.out.below hb3)
            clear hb3
            obtain ⟨w4, hw4⟩ : ∃ w4, w4 = w3.alloc (.cells #[.string { data := #[115, 105, 122, 101] }, bytesV (Lib.itoa n), bytesV (Lib.itoa z)] 9) := ⟨_, rfl⟩
            have hB4 := Lib.hid (hB3.out.below (show Below w3.heap.size w3 w4 by rw [hw4]; exact (Below.refl _ _).alloc (Nat.le_refl _) _))
            have e1 : (Lib.join (([⟨#[115, 105, 122, 101]⟩, ⟨(Lib.itoa n).toArray⟩, ⟨(Lib.itoa z).toArray⟩] : List ByteArray).map (·.data.toList)) (⟨#[32]⟩ : ByteArray).data.toList) = Lib.join [wSize, Lib.itoa n, Lib.itoa z] [32] := by simp [wSize]
            have hj := Tryz.strings_Join w3.heap.size 0 3 [⟨#[115, 105, 122, 101]⟩, ⟨(Lib.itoa n).toArray⟩, ⟨(Lib.itoa z).toArray⟩] ⟨#[32]⟩ w4 (fun j x hx => by
              rw [hw4, cell_of_row _ _ _ _ _ _ (heap_alloc_new w3 _), Nat.zero_add]
              rcases j with _ | _ | _ | j
              · simp at hx; subst hx; rfl
              · simp at hx; subst hx; rfl
              · simp at hx; subst hx; rfl
              · simp at hx) (by rw [hw4]; simp) (by simp) (by simp) (by rw [e1]; omega)
            rw [e1] at hj
            obtain ⟨J, hJ⟩ : ∃ J, J = Lib.join [wSize, Lib.itoa n, Lib.itoa z] [32] := ⟨_, rfl⟩
            rw [← hJ] at hj hjl
            have hnext2 : Hid (linesZ zs (n + 1) = lz ++ (J ++ [10])) := by show _ = _; rw [hnext.out, lineZ, hJ]
            have hj' := Lib.hid hj
            have hw4' := Lib.hid hw4
            have hJ' := Lib.hid hJ
            clear hj e1 hw4 hJ hpos
            go_wp2_with (go_at_call 40; fail)
            rw [← hw4'.out]
            refine hj'.out.mono ?_
            rintro e w5 ⟨rfl, hb5⟩
            have hB5 := Lib.hid (hB4.out.below hb5)
            have hadd := add_nl J (by omega) w5
            have hln : (Lib.byteCells (lk ++ lz)).length + (⟨(J ++ [10]).toArray⟩ : ByteArray).size ≤ 140737488355328 := by
              rw [bsize, Lib.byteCells_length, List.length_append, List.length_append, List.length_singleton]; omega
            have hws := writeString_any w.heap.size w.heap.size (Lib.byteCells (lk ++ lz)) ⟨(J ++ [10]).toArray⟩ w5 hB5.out.bd hln hB5.out.bel.size
            have hws' := Lib.hid hws
            clear hb5 hln hws
            go_wp2_with (go_at_call 39; fail)
            refine hws'.out.mono ?_
            rintro e w6 ⟨rfl, hbd6, hbe6, hot6⟩
            have hB6 := Lib.hid (hB5.out.line hbd6 hbe6 hot6)
            clear hbd6 hbe6 hot6 hadd
            go_wp2_with fail
            refine ⟨⟨n + 1, by omega, by go_num, ?_⟩, by simp [intOf]; omega⟩
            rw [hnext2.out, ← List.append_assoc]; exact hB6.out
          · rw [if_neg hpos, List.append_nil] at hnext
            go_wp2_with fail
            exact ⟨⟨n + 1, by omega, by go_num, by rw [hnext.out]; exact hB'.out⟩, by simp [intOf]; omega⟩
        · obtain rfl : n = 18 := by omega
          have hstr := Any.Builder_String_any_k { Tryz.lays156 with } Tryz.Builder_Extra_156 w.heap.size w.heap.size (lk ++ linesZ zs 18) wr hB'.out.bd hB'.out.bel.size
          have hstr2 : Calls Tryz.prog 42 #[.pointer (some ⟨w.heap.size, 0, none⟩)] wr fun e w' => e = .returned (.string ⟨(lk ++ linesZ zs 18).toArray⟩) ∧ (Lib.IsBuilderF 77 5 w.heap.size w.heap.size (Lib.byteCells (lk ++ linesZ zs 18)) w' ∧ Below w.heap.size wr w' ∧ Lib.OthersKept 5 (some w.heap.size) wr w') := hstr
          have hstr' := Lib.hid hstr2
          clear hstr hstr2
          go_wp2_with (go_at_call 42; fail)
          refine hstr'.out.mono ?_
          rintro e w6 ⟨rfl, _, hbe6, _⟩
          have hbf := Lib.hid (hB'.out.bel.trans hbe6)
          clear hbe6
          go_wp2_with fail
          go_ret
          refine ⟨?_, hbf.out⟩
          rw [textK, ← hks'.out, ← hlk'.out]
          rfl
end Go.Proofs.YtlemadbmlnjhpaaGreatDoor
