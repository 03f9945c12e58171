/- Stats.Text: its two statements that draw their order. -/
import Derived.Test.YtlemadbmlnjhpaaGreatDoorLG
import Derived.Test.YtlemadbmlnjhpaaGreatDoorLF
import Derived.Test.YtlemadbmlnjhpaaGreatDoorTextShelf
import Derived.Shelf.Strings.BuilderK
import Derived.Lib.OthersKept
import Derived.Lib.SmallJoins
namespace Go.Proofs.YtlemadbmlnjhpaaGreatDoor
open Go Go.RowKit Go.Proofs
open Go.Sort (grow)
set_option linter.unusedSimpArgs false
set_option linter.unusedVariables false

abbrev bytesV (l : List UInt8) : Value := .string ⟨l.toArray⟩
def wordsV : Value := .agg #[.string { data := #[100, 97, 121] }, .string { data := #[103, 114, 111, 117, 112] }, .string { data := #[115, 105, 116, 101] }, .string { data := #[97, 117, 116, 104, 111, 114] }]
set_option maxHeartbeats 1000000 in
theorem words_any (w : World) : Calls Tryz.prog 41 #[] w fun e w' => e = .returned wordsV ∧ Below w.heap.size w w' := by
  go_enter Tryz.func41, Tryz.ntmps41
  go_wp2_with fail
  exact bodyPost_ret (v := wordsV) (by simp [results, Tryz.results41, go_sem, wordsV]) rfl ⟨rfl, (Below.refl _ _).alloc (Nat.le_refl _) _⟩
theorem Tryz.idxW0 (w : World) : (Instr.index 84 wordsV (.int .i64 0)).run Tryz.prog w = .ok (bytesV (kindWord 0)) w := by kernel_rfl
theorem Tryz.idxW1 (w : World) : (Instr.index 84 wordsV (.int .i64 1)).run Tryz.prog w = .ok (bytesV (kindWord 1)) w := by kernel_rfl
theorem Tryz.idxW2 (w : World) : (Instr.index 84 wordsV (.int .i64 2)).run Tryz.prog w = .ok (bytesV (kindWord 2)) w := by kernel_rfl
theorem Tryz.idxW3 (w : World) : (Instr.index 84 wordsV (.int .i64 3)).run Tryz.prog w = .ok (bytesV (kindWord 3)) w := by kernel_rfl
theorem Tryz.idxW (k : Int) (h0 : 0 ≤ k) (h3 : k ≤ 3) (w : World) : (Instr.index 84 wordsV (.int .i64 k)).run Tryz.prog w = .ok (bytesV (kindWord k)) w := by
  have : k = 0 ∨ k = 1 ∨ k = 2 ∨ k = 3 := by omega
  rcases this with rfl | rfl | rfl | rfl
  · exact Tryz.idxW0 w
  · exact Tryz.idxW1 w
  · exact Tryz.idxW2 w
  · exact Tryz.idxW3 w
theorem below_grow (w : World) (k : Nat) (os : Array Obj) : Below w.heap.size w (grow (w.drewN k) os) :=
  ⟨rfl, rfl, rfl, by simp [grow], fun i hi => by
    show (w.heap ++ os)[i]? = w.heap[i]?
    rw [Array.getElem?_append_left hi]⟩
/-- the table that numbers are printed by -/
def Tab (w : World) : Prop := Lib.TabIs Tryz.prog w "internal/strconv.uint64pow10" .u64 Lib.pow10Tab
theorem Tab.below {w w' : World} (h : Tab w) (hb : Below w.heap.size w w') : Tab w' := Joins.tab_stays (g := 1) (by kernel_rfl) h hb (Nat.le_refl _)
theorem bsize (l : List UInt8) : (⟨l.toArray⟩ : ByteArray).size = l.length := by simp [ByteArray.size]
theorem app_nl (J : List UInt8) : (⟨J.toArray⟩ : ByteArray) ++ ⟨#[10]⟩ = ⟨(J ++ [10]).toArray⟩ := by
  apply ByteArray.ext; simp
theorem add_nl (J : List UInt8) (h : J.length ≤ 10000) (W : World) : (Op.stringOp .add ⟨J.toArray⟩ { data := #[10] }).run Tryz.prog W = .ok (.string ⟨(J ++ [10]).toArray⟩) W :=
  run_string_add_lists W J [10] (by omega) (by simp)
theorem writeString_any (B b : Nat) (bs : List Value) (s : ByteArray) (w : World) (h : Lib.IsBuilderF 77 5 B b bs w) (hlen : bs.length + s.size ≤ 140737488355328) (hBw : B ≤ w.heap.size) :
    Calls Tryz.prog 39 #[.pointer (some ⟨b, 0, none⟩), .string s] w fun e w' => e = .returned (.tuple #[.int .i64 s.size, .nilIface]) ∧ (Lib.BuilderAtF 77 5 B b (.pointer (some ⟨b, 0, none⟩)) (bs ++ Lib.strCells s) w' ∧ Below B w w' ∧ Lib.OthersKept 5 (some b) w w') :=
  Any.Builder_WriteString_k { Tryz.lays156 with } Tryz.Builder_Extra_156 B b bs s w h hlen hBw
theorem itoa_any (n : Int) (w : World) (hT : Tab w) (h0 : -9223372036854775808 ≤ n) (h1 : n ≤ 9223372036854775807) : Calls Tryz.prog 38 #[.int .i64 n] w fun e w' => e = .returned (bytesV (Lib.itoa n)) ∧ Below w.heap.size w w' :=
  (Tryz.strconv_Itoa n h0 h1 w hT).mono fun _ _ ⟨he, k, os, hw⟩ => ⟨he, by rw [hw]; exact below_grow w k os⟩

def ops10 : Array Oper := #[{ dst := some 27, op := Op.move (Operand.tmp 0), type := 30, pos := "stats.go:279", after := #[], guard := none }, { dst := some 28, op := Op.nilCheck (Operand.tmp 27), type := 0, pos := "stats.go:279", after := #[{ on := 0, ground := Ground.data }], guard := none }, { dst := some 29, op := Op.fieldAddr 72 (Operand.tmp 28) 0, type := 0, pos := "stats.go:279", after := #[{ on := 1, ground := Ground.data }], guard := none }, { dst := some 30, op := Op.load 70 (Operand.tmp 29), type := 70, pos := "stats.go:279", after := #[{ on := 2, ground := Ground.data }], guard := none }, { dst := some 31, op := Op.load 64 (Operand.tmp 5), type := 64, pos := "stats.go:279", after := #[], guard := none }, { dst := some 32, op := Op.lookup 70 (Operand.tmp 30) (Operand.tmp 31) false, type := 34, pos := "stats.go:279", after := #[{ on := 3, ground := Ground.data }, { on := 4, ground := Ground.data }], guard := none }, { dst := some 7, op := Op.alloc 34, type := 0, pos := "stats.go:279", after := #[], guard := none }, { dst := none, op := Op.store 34 (Operand.tmp 7) (Operand.tmp 32), type := 0, pos := "stats.go:279", after := #[{ on := 6, ground := Ground.data }, { on := 5, ground := Ground.data }, { on := 0, ground := Ground.phase }, { on := 1, ground := Ground.phase }, { on := 2, ground := Ground.phase }, { on := 3, ground := Ground.phase }, { on := 4, ground := Ground.phase }, { on := 5, ground := Ground.phase }, { on := 6, ground := Ground.phase }], guard := none }]
set_option maxRecDepth 100000 in
set_option maxHeartbeats 3200000 in
theorem text_region10 (sb m kb : Nat) (L : List (Key × Cnt)) (zs : List Int) (k1 k2 : Int) (k3 : ByteArray) (c1 c2 : Int) (wA : World) (t1 t2 t3 t4 t6 t7 t8 t9 t10 t11 t12 t13 t14 t15 t16 t17 t18 t19 t20 t21 t22 t23 t24 t25 t26 t27 t28 t29 t30 t31 t32 t33 t34 t35 t36 t37 t38 t39 t40 t41 t42 t43 t44 t45 t46 t47 t48 t49 t50 t51 t52 t53 t54 t55 t56 t57 t58 t59 t60 t61 t62 t63 t64 t65 t66 t67 t68 : Value) (Q : Exit → Act → World → Prop) (hP : ∀ c a a' w, Q (.panic c) a w → Q (.panic c) a' w)
    (hst : StatsAt wA sb m L zs) (hk : wA.rangeAt kb 0 [.int .i64 k1, .int .i64 k2, .string k3]) (hkb : kb < wA.heap.size) (hc : getL (k1, k2, k3) L = (c1, c2))
    (hQ : ∀ w' r27 r28 r29 r30 r31 r32, Below wA.heap.size wA w' → w'.heap[wA.heap.size]? = some (.cells #[.int .i64 c1, .int .i64 c2] 34 (0, 0)) → Q .normal { tmps := #[(.pointer (some ⟨sb, 0, none⟩)), t1, t2, t3, t4, (.pointer (some ⟨kb, 0, none⟩)), t6, (.pointer (some ⟨wA.heap.size, 0, none⟩)), t8, t9, t10, t11, t12, t13, t14, t15, t16, t17, t18, t19, t20, t21, t22, t23, t24, t25, t26, r27, r28, r29, r30, r31, r32, t33, t34, t35, t36, t37, t38, t39, t40, t41, t42, t43, t44, t45, t46, t47, t48, t49, t50, t51, t52, t53, t54, t55, t56, t57, t58, t59, t60, t61, t62, t63, t64, t65, t66, t67, t68], defers := [] } w') :
    (Code.region 10 ops10 true).wp Tryz.prog Q { tmps := #[(.pointer (some ⟨sb, 0, none⟩)), t1, t2, t3, t4, (.pointer (some ⟨kb, 0, none⟩)), t6, t7, t8, t9, t10, t11, t12, t13, t14, t15, t16, t17, t18, t19, t20, t21, t22, t23, t24, t25, t26, t27, t28, t29, t30, t31, t32, t33, t34, t35, t36, t37, t38, t39, t40, t41, t42, t43, t44, t45, t46, t47, t48, t49, t50, t51, t52, t53, t54, t55, t56, t57, t58, t59, t60, t61, t62, t63, t64, t65, t66, t67, t68], defers := [] } wA := by
  have hH : Below wA.heap.size wA wA.drew := (Below.refl _ _).drew
  refine wp_region_held_drew (S := fun W' => Below wA.heap.size wA W') (by kernel_rfl) hH (fun _ => ?_)
  refine wpAnyH_take (i := 0) (oi := { dst := some 27, op := Op.move (Operand.tmp 0), type := 30, pos := "stats.go:279", after := #[], guard := none }) (v := (.pointer (some ⟨sb, 0, none⟩))) rfl (by kernel_rfl) (by kernel_rfl) (by kernel_rfl) (fun _ _ _ h => hP _ _ _ _ h) (Or.inl ⟨by rfl, fun w hSw => by go_simp⟩) hH ?_
  try simp only [Act.put, List.setIfInBounds_toArray, List.set_cons_zero, List.set_cons_succ]
  refine wpAnyH_take (i := 1) (oi := { dst := some 28, op := Op.nilCheck (Operand.tmp 27), type := 0, pos := "stats.go:279", after := #[{ on := 0, ground := Ground.data }], guard := none }) (v := (.pointer (some ⟨sb, 0, none⟩))) rfl (by kernel_rfl) (by kernel_rfl) (by kernel_rfl) (fun _ _ _ h => hP _ _ _ _ h) (Or.inl ⟨by rfl, fun w hSw => by go_simp⟩) hH ?_
  try simp only [Act.put, List.setIfInBounds_toArray, List.set_cons_zero, List.set_cons_succ]
  refine wpAnyH_take (i := 2) (oi := { dst := some 29, op := Op.fieldAddr 72 (Operand.tmp 28) 0, type := 0, pos := "stats.go:279", after := #[{ on := 1, ground := Ground.data }], guard := none }) (v := (.pointer (some ⟨sb, 0, none⟩))) rfl (by kernel_rfl) (by kernel_rfl) (by kernel_rfl) (fun _ _ _ h => hP _ _ _ _ h) (Or.inl ⟨by rfl, fun w hSw => by go_simp⟩) hH ?_
  try simp only [Act.put, List.setIfInBounds_toArray, List.set_cons_zero, List.set_cons_succ]
  refine wpAnyH_take (i := 3) (oi := { dst := some 30, op := Op.load 70 (Operand.tmp 29), type := 70, pos := "stats.go:279", after := #[{ on := 2, ground := Ground.data }], guard := none }) (v := (.map (some m))) rfl (by kernel_rfl) (by kernel_rfl) (by kernel_rfl) (fun _ _ _ h => hP _ _ _ _ h) (Or.inl ⟨by rfl, fun W' hW' => by have hc0 := (hst.below hW').cell0; clear hW'; go_simp⟩) hH ?_
  try simp only [Act.put, List.setIfInBounds_toArray, List.set_cons_zero, List.set_cons_succ]
  refine wpAnyH_take (i := 4) (oi := { dst := some 31, op := Op.load 64 (Operand.tmp 5), type := 64, pos := "stats.go:279", after := #[], guard := none }) (v := (.agg #[.int .i64 k1, .int .i64 k2, .string k3])) rfl (by kernel_rfl) (by kernel_rfl) (by kernel_rfl) (fun _ _ _ h => hP _ _ _ _ h) (yieldsIf_load_mid (by rfl) _ _ rfl kb 0 rfl [.int .i64 k1, .int .i64 k2, .string k3] _ (fun W' hW => (keepS hk hkb hW).2) Tryz.underlying64 rfl (by kernel_rfl)) hH ?_
  try simp only [Act.put, List.setIfInBounds_toArray, List.set_cons_zero, List.set_cons_succ]
  refine wpAnyH_take (i := 5) (oi := { dst := some 32, op := Op.lookup 70 (Operand.tmp 30) (Operand.tmp 31) false, type := 34, pos := "stats.go:279", after := #[{ on := 3, ground := Ground.data }, { on := 4, ground := Ground.data }], guard := none }) (v := (.agg #[.int .i64 c1, .int .i64 c2])) rfl (by kernel_rfl) (by kernel_rfl) (by kernel_rfl) (fun _ _ _ h => hP _ _ _ _ h) (Or.inl ⟨by rfl, fun W' hW' => by have hlk := (hst.below hW').2.2.lookup (k1, k2, k3); rw [hc] at hlk; have hlk' : (Instr.lookup 70 (.map (some m)) (.agg #[.int .i64 k1, .int .i64 k2, .string k3]) false).run Tryz.prog W' = .ok (.agg #[.int .i64 c1, .int .i64 c2]) W' := hlk; clear hlk hW'; go_simp⟩) hH ?_
  try simp only [Act.put, List.setIfInBounds_toArray, List.set_cons_zero, List.set_cons_succ]
  refine wpAnyH_ready (rs := [6]) (by kernel_rfl) (by simp) ?_
  refine AllReadyH.cons (o := { dst := some 7, op := Op.alloc 34, type := 0, pos := "stats.go:279", after := #[], guard := none }) rfl (fun K hK => ?_) AllReadyH.nil
  go_simp
  refine hK.out _ _ (hH.alloc hH.size _) (fun _ => ?_)
  clear hK
  try simp only [Act.put, List.setIfInBounds_toArray, List.set_cons_zero, List.set_cons_succ]
  refine wpAnyH_ready (rs := [7]) (by kernel_rfl) (by simp) ?_
  refine AllReadyH.cons (o := { dst := none, op := Op.store 34 (Operand.tmp 7) (Operand.tmp 32), type := 0, pos := "stats.go:279", after := #[{ on := 6, ground := Ground.data }, { on := 5, ground := Ground.data }, { on := 0, ground := Ground.phase }, { on := 1, ground := Ground.phase }, { on := 2, ground := Ground.phase }, { on := 3, ground := Ground.phase }, { on := 4, ground := Ground.phase }, { on := 5, ground := Ground.phase }, { on := 6, ground := Ground.phase }], guard := none }) rfl (fun K hK => ?_) AllReadyH.nil
  go_simp
  refine hK.out _ _ ?_ (fun _ => ?_)
  · exact hH.alloc hH.size _
  clear hK
  try simp only [Act.put, List.setIfInBounds_toArray, List.set_cons_zero, List.set_cons_succ]
  refine wpAnyH_done (by kernel_rfl) ?_ _
  dsimp only at hQ
  exact hQ _ _ _ _ _ _ _ (hH.alloc hH.size _) (heap_alloc_new wA _)

theorem range_of_heap {w : World} {b : Nat} {cs : List Value} {t : TypeId} (h : w.heap[b]? = some (.cells cs.toArray t (0, 0))) : w.rangeAt b 0 cs := fun j v hj => by
  rw [cell_of_row _ _ _ _ _ _ h, Nat.zero_add]; simpa using hj
theorem builder_block {T e : TypeId} {B b : Nat} {bs : List Value} {w : World} (h : Lib.IsBuilderF T e B b bs w) : ∃ cs, w.heap[b]? = some (.cells cs T (0, 0)) := by
  rcases h with ⟨_, v, h, _⟩ | ⟨_, v, h, _⟩ <;> exact ⟨_, h⟩
theorem others_cell {T e t : TypeId} {B b k : Nat} {bs : List Value} {w w' : World} {cs : Array Value} {fz : Nat × Nat} (ho : Lib.OthersKept e (some b) w w') (hb : Lib.IsBuilderF T e B b bs w) (h : w.heap[k]? = some (.cells cs t fz)) (h1 : t ≠ T) (h2 : t ≠ e) : w'.heap[k]? = some (.cells cs t fz) := by
  refine ho k _ h (fun he => ?_) (fun c fz he => h2 (Obj.cells.inj he).2.1)
  obtain ⟨cs', hc⟩ := builder_block hb
  cases he
  rw [h] at hc
  exact h1 (Obj.cells.inj (Option.some.inj hc)).2.1
theorem lt_of_row {w : World} {b o : Nat} {cs : List Value} {v : Value} (h : w.rangeAt b o cs) (h0 : cs[0]? = some v) : b < w.heap.size := World.block_lt_of_cell? w _ (h 0 v h0)
theorem builder_below {T e : TypeId} {B b : Nat} {bs : List Value} {w w' : World} (h : Lib.IsBuilderF T e B b bs w) (hb : Below w.heap.size w w') : Lib.IsBuilderF T e B b bs w' := by
  have key : ∀ p, Lib.BuilderAtF T e B b p bs w → Lib.BuilderAtF T e B b p bs w' := fun p hp => by
    obtain ⟨h0, v, h1, h2, h3⟩ := hp
    refine ⟨h0, v, (hb.block b (Array.getElem?_eq_some_iff.1 h1).1).trans h1, ?_, h3⟩
    obtain ⟨g1, g2⟩ := h2
    refine ⟨g1, ?_⟩
    rcases g2 with hn | ⟨g, cap, cur, fz, hv, hB, hg, rest⟩
    · exact .inl hn
    · exact .inr ⟨g, cap, cur, fz, hv, hB, (hb.block g (Array.getElem?_eq_some_iff.1 hg).1).trans hg, rest⟩
  exact h.elim (fun x => .inl (key _ x)) (fun x => .inr (key _ x))
def ops11 : Array Oper := #[{ dst := some 33, op := Op.call { callee := Callee.value (Operand.func 41), args := #[], argTypes := #[] }, type := 84, pos := "stats.go:280", after := #[], guard := none }, { dst := some 34, op := Op.fieldAddr 64 (Operand.tmp 5) 1, type := 0, pos := "stats.go:280", after := #[], guard := none }, { dst := some 35, op := Op.load 3 (Operand.tmp 34), type := 3, pos := "stats.go:280", after := #[{ on := 1, ground := Ground.data }], guard := none }, { dst := some 36, op := Op.index 84 (Operand.tmp 33) (Operand.tmp 35), type := 9, pos := "stats.go:280", after := #[{ on := 0, ground := Ground.data }, { on := 2, ground := Ground.data }], guard := none }, { dst := some 37, op := Op.move (Operand.tmp 6), type := 9, pos := "stats.go:280", after := #[], guard := none }, { dst := some 38, op := Op.fieldAddr 34 (Operand.tmp 7) 0, type := 0, pos := "stats.go:280", after := #[], guard := none }, { dst := some 39, op := Op.load 3 (Operand.tmp 38), type := 3, pos := "stats.go:280", after := #[{ on := 5, ground := Ground.data }], guard := none }, { dst := some 40, op := Op.call { callee := Callee.value (Operand.func 38), args := #[Operand.tmp 39], argTypes := #[3] }, type := 9, pos := "stats.go:280", after := #[{ on := 6, ground := Ground.data }, { on := 0, ground := Ground.chain }], guard := none }, { dst := some 41, op := Op.fieldAddr 34 (Operand.tmp 7) 1, type := 0, pos := "stats.go:280", after := #[], guard := none }, { dst := some 42, op := Op.load 3 (Operand.tmp 41), type := 3, pos := "stats.go:280", after := #[{ on := 8, ground := Ground.data }], guard := none }, { dst := some 43, op := Op.call { callee := Callee.value (Operand.func 38), args := #[Operand.tmp 42], argTypes := #[3] }, type := 9, pos := "stats.go:280", after := #[{ on := 9, ground := Ground.data }, { on := 7, ground := Ground.chain }], guard := none }, { dst := some 44, op := Op.buildSlice 25 4 #[(0, Operand.tmp 36), (1, Operand.tmp 37), (2, Operand.tmp 40), (3, Operand.tmp 43)], type := 25, pos := "stats.go:280", after := #[{ on := 3, ground := Ground.data }, { on := 4, ground := Ground.data }, { on := 7, ground := Ground.data }, { on := 10, ground := Ground.data }], guard := none }, { dst := some 45, op := Op.call { callee := Callee.value (Operand.func 40), args := #[Operand.tmp 44, Operand.const (Value.string { data := #[32] })], argTypes := #[25, 9] }, type := 9, pos := "stats.go:280", after := #[{ on := 11, ground := Ground.data }, { on := 10, ground := Ground.chain }], guard := none }, { dst := some 46, op := Op.binOp BinOp.add 9 (Operand.tmp 45) (Operand.const (Value.string { data := #[10] })) 9, type := 9, pos := "stats.go:280", after := #[{ on := 12, ground := Ground.data }], guard := none }, { dst := some 47, op := Op.call { callee := Callee.value (Operand.func 39), args := #[Operand.tmp 3, Operand.tmp 46], argTypes := #[77, 9] }, type := 81, pos := "stats.go:280", after := #[{ on := 13, ground := Ground.data }, { on := 12, ground := Ground.chain }], guard := none }]
set_option maxRecDepth 100000 in
set_option maxHeartbeats 3200000 in
theorem text_region11 (b kb cb B : Nat) (k1 k2 : Int) (k3 nm : ByteArray) (c1 c2 : Int) (bs : List Value) (wB : World) (t0 t1 t2 t4 t8 t9 t10 t11 t12 t13 t14 t15 t16 t17 t18 t19 t20 t21 t22 t23 t24 t25 t26 t27 t28 t29 t30 t31 t32 t33 t34 t35 t36 t37 t38 t39 t40 t41 t42 t43 t44 t45 t46 t47 t48 t49 t50 t51 t52 t53 t54 t55 t56 t57 t58 t59 t60 t61 t62 t63 t64 t65 t66 t67 t68 : Value) (Q : Exit → Act → World → Prop) (hP : ∀ c a a' w, Q (.panic c) a w → Q (.panic c) a' w)
    (hkH : wB.heap[kb]? = some (.cells #[.int .i64 k1, .int .i64 k2, .string k3] 64 (0, 0))) (hcH : wB.heap[cb]? = some (.cells #[.int .i64 c1, .int .i64 c2] 34 (0, 0))) (hT : Tab wB) (hk2 : 0 ≤ k2 ∧ k2 ≤ 3) (hc1 : 0 ≤ c1 ∧ c1 ≤ 1000000000000) (hc2 : 0 ≤ c2 ∧ c2 ≤ 1000000000000)
    (hbd : Lib.IsBuilderF 77 5 B b bs wB) (hB : B ≤ wB.heap.size) (hjl : (Lib.join [kindWord k2, nm.data.toList, Lib.itoa c1, Lib.itoa c2] [32]).length ≤ 10000) (hbs : bs.length ≤ 100000000000000)
    (hQ : ∀ wJ w' r33 r34 r35 r36 r37 r38 r39 r40 r41 r42 r43 r44 r45 r46 r47, Below wB.heap.size wB wJ → Lib.BuilderAtF 77 5 B b (.pointer (some ⟨b, 0, none⟩)) (bs ++ Lib.strCells ⟨(Lib.join [kindWord k2, nm.data.toList, Lib.itoa c1, Lib.itoa c2] [32] ++ [10]).toArray⟩) w' → Below B wJ w' → Lib.OthersKept 5 (some b) wJ w' → Q .normal { tmps := #[t0, t1, t2, (.pointer (some ⟨b, 0, none⟩)), t4, (.pointer (some ⟨kb, 0, none⟩)), (.string nm), (.pointer (some ⟨cb, 0, none⟩)), t8, t9, t10, t11, t12, t13, t14, t15, t16, t17, t18, t19, t20, t21, t22, t23, t24, t25, t26, t27, t28, t29, t30, t31, t32, r33, r34, r35, r36, r37, r38, r39, r40, r41, r42, r43, r44, r45, r46, r47, t48, t49, t50, t51, t52, t53, t54, t55, t56, t57, t58, t59, t60, t61, t62, t63, t64, t65, t66, t67, t68], defers := [] } w') :
    (Code.region 11 ops11 true).wp Tryz.prog Q { tmps := #[t0, t1, t2, (.pointer (some ⟨b, 0, none⟩)), t4, (.pointer (some ⟨kb, 0, none⟩)), (.string nm), (.pointer (some ⟨cb, 0, none⟩)), t8, t9, t10, t11, t12, t13, t14, t15, t16, t17, t18, t19, t20, t21, t22, t23, t24, t25, t26, t27, t28, t29, t30, t31, t32, t33, t34, t35, t36, t37, t38, t39, t40, t41, t42, t43, t44, t45, t46, t47, t48, t49, t50, t51, t52, t53, t54, t55, t56, t57, t58, t59, t60, t61, t62, t63, t64, t65, t66, t67, t68], defers := [] } wB := by
  have hH : Below wB.heap.size wB wB.drew := (Below.refl _ _).drew
  have hk := range_of_heap hkH
  have hc := range_of_heap hcH
  have hkb := lt_of_row hk rfl
  have hcb := lt_of_row hc rfl
  have kK : ∀ W', Below wB.heap.size wB W' → W'.cell? ⟨kb, 1, none⟩ = some (.int .i64 k2) := fun W' hW => (keepS hk hkb hW).2 1 _ rfl
  have kC : ∀ W', Below wB.heap.size wB W' → W'.cell? ⟨cb, 0, none⟩ = some (.int .i64 c1) ∧ W'.cell? ⟨cb, 1, none⟩ = some (.int .i64 c2) := fun W' hW => ⟨(keepS hc hcb hW).2 0 _ rfl, (keepS hc hcb hW).2 1 _ rfl⟩
  refine wp_region_held_drew (S := fun W' => W'.cell? ⟨kb, 1, none⟩ = some (.int .i64 k2) ∧ W'.cell? ⟨cb, 0, none⟩ = some (.int .i64 c1) ∧ W'.cell? ⟨cb, 1, none⟩ = some (.int .i64 c2)) (by kernel_rfl) ⟨kK _ hH, kC _ hH⟩ (fun hS0 => ?_)
  refine wpAnyH_take (i := 1) (oi := { dst := some 34, op := Op.fieldAddr 64 (Operand.tmp 5) 1, type := 0, pos := "stats.go:280", after := #[], guard := none }) (v := (.pointer (some ⟨kb, 1, none⟩))) rfl (by kernel_rfl) (by kernel_rfl) (by kernel_rfl) (fun _ _ _ h => hP _ _ _ _ h) (Or.inl ⟨by rfl, fun w hSw => by go_simp⟩) hS0 ?_
  try simp only [Act.put, List.setIfInBounds_toArray, List.set_cons_zero, List.set_cons_succ]
  refine wpAnyH_take (i := 2) (oi := { dst := some 35, op := Op.load 3 (Operand.tmp 34), type := 3, pos := "stats.go:280", after := #[{ on := 1, ground := Ground.data }], guard := none }) (v := (.int .i64 k2)) rfl (by kernel_rfl) (by kernel_rfl) (by kernel_rfl) (fun _ _ _ h => hP _ _ _ _ h) (Or.inl ⟨by rfl, fun W' hW' => by obtain ⟨q1, q2, q3⟩ := hW'; go_simp⟩) hS0 ?_
  try simp only [Act.put, List.setIfInBounds_toArray, List.set_cons_zero, List.set_cons_succ]
  refine wpAnyH_take (i := 4) (oi := { dst := some 37, op := Op.move (Operand.tmp 6), type := 9, pos := "stats.go:280", after := #[], guard := none }) (v := (.string nm)) rfl (by kernel_rfl) (by kernel_rfl) (by kernel_rfl) (fun _ _ _ h => hP _ _ _ _ h) (Or.inl ⟨by rfl, fun w hSw => by go_simp⟩) hS0 ?_
  try simp only [Act.put, List.setIfInBounds_toArray, List.set_cons_zero, List.set_cons_succ]
  refine wpAnyH_take (i := 5) (oi := { dst := some 38, op := Op.fieldAddr 34 (Operand.tmp 7) 0, type := 0, pos := "stats.go:280", after := #[], guard := none }) (v := (.pointer (some ⟨cb, 0, none⟩))) rfl (by kernel_rfl) (by kernel_rfl) (by kernel_rfl) (fun _ _ _ h => hP _ _ _ _ h) (Or.inl ⟨by rfl, fun w hSw => by go_simp⟩) hS0 ?_
  try simp only [Act.put, List.setIfInBounds_toArray, List.set_cons_zero, List.set_cons_succ]
  refine wpAnyH_take (i := 6) (oi := { dst := some 39, op := Op.load 3 (Operand.tmp 38), type := 3, pos := "stats.go:280", after := #[{ on := 5, ground := Ground.data }], guard := none }) (v := (.int .i64 c1)) rfl (by kernel_rfl) (by kernel_rfl) (by kernel_rfl) (fun _ _ _ h => hP _ _ _ _ h) (Or.inl ⟨by rfl, fun W' hW' => by obtain ⟨q1, q2, q3⟩ := hW'; go_simp⟩) hS0 ?_
  try simp only [Act.put, List.setIfInBounds_toArray, List.set_cons_zero, List.set_cons_succ]
  refine wpAnyH_take (i := 8) (oi := { dst := some 41, op := Op.fieldAddr 34 (Operand.tmp 7) 1, type := 0, pos := "stats.go:280", after := #[], guard := none }) (v := (.pointer (some ⟨cb, 1, none⟩))) rfl (by kernel_rfl) (by kernel_rfl) (by kernel_rfl) (fun _ _ _ h => hP _ _ _ _ h) (Or.inl ⟨by rfl, fun w hSw => by go_simp⟩) hS0 ?_
  try simp only [Act.put, List.setIfInBounds_toArray, List.set_cons_zero, List.set_cons_succ]
  refine wpAnyH_take (i := 9) (oi := { dst := some 42, op := Op.load 3 (Operand.tmp 41), type := 3, pos := "stats.go:280", after := #[{ on := 8, ground := Ground.data }], guard := none }) (v := (.int .i64 c2)) rfl (by kernel_rfl) (by kernel_rfl) (by kernel_rfl) (fun _ _ _ h => hP _ _ _ _ h) (Or.inl ⟨by rfl, fun W' hW' => by obtain ⟨q1, q2, q3⟩ := hW'; go_simp⟩) hS0 ?_
  try simp only [Act.put, List.setIfInBounds_toArray, List.set_cons_zero, List.set_cons_succ]
  refine wpAnyH_ready (rs := [0]) (by kernel_rfl) (by simp) ?_
  refine AllReadyH.cons (o := { dst := some 33, op := Op.call { callee := Callee.value (Operand.func 41), args := #[], argTypes := #[] }, type := 84, pos := "stats.go:280", after := #[], guard := none }) rfl (fun K hK => ?_) AllReadyH.nil
  go_simp
  go_at_call 41
  refine (words_any _).mono ?_
  rintro e w1 ⟨rfl, hbx⟩
  have hb1 := hH.trans (hbx.mono hH.size)
  have hShb1 := And.intro (kK _ hb1) (kC _ hb1)
  clear hbx
  refine hK.out _ _ hShb1 (fun _ => ?_)
  clear hK
  try simp only [Act.put, List.setIfInBounds_toArray, List.set_cons_zero, List.set_cons_succ]
  refine wpAnyH_take (i := 3) (oi := { dst := some 36, op := Op.index 84 (Operand.tmp 33) (Operand.tmp 35), type := 9, pos := "stats.go:280", after := #[{ on := 0, ground := Ground.data }, { on := 2, ground := Ground.data }], guard := none }) (v := (bytesV (kindWord k2))) rfl (by kernel_rfl) (by kernel_rfl) (by kernel_rfl) (fun _ _ _ h => hP _ _ _ _ h) (Or.inl ⟨by rfl, fun W' hW' => by have hix := Tryz.idxW k2 hk2.1 hk2.2 W'; go_simp⟩) hShb1 ?_
  try simp only [Act.put, List.setIfInBounds_toArray, List.set_cons_zero, List.set_cons_succ]
  refine wpAnyH_ready (rs := [7]) (by kernel_rfl) (by simp) ?_
  refine AllReadyH.cons (o := { dst := some 40, op := Op.call { callee := Callee.value (Operand.func 38), args := #[Operand.tmp 39], argTypes := #[3] }, type := 9, pos := "stats.go:280", after := #[{ on := 6, ground := Ground.data }, { on := 0, ground := Ground.chain }], guard := none }) rfl (fun K hK => ?_) AllReadyH.nil
  go_simp
  go_at_call 38
  refine (itoa_any c1 _ (hT.below hb1) (by omega) (by omega)).mono ?_
  rintro e w2 ⟨rfl, hbx⟩
  have hb2 := hb1.trans (hbx.mono hb1.size)
  have hShb2 := And.intro (kK _ hb2) (kC _ hb2)
  clear hbx
  refine hK.out _ _ hShb2 (fun _ => ?_)
  clear hK
  try simp only [Act.put, List.setIfInBounds_toArray, List.set_cons_zero, List.set_cons_succ]
  refine wpAnyH_ready (rs := [10]) (by kernel_rfl) (by simp) ?_
  refine AllReadyH.cons (o := { dst := some 43, op := Op.call { callee := Callee.value (Operand.func 38), args := #[Operand.tmp 42], argTypes := #[3] }, type := 9, pos := "stats.go:280", after := #[{ on := 9, ground := Ground.data }, { on := 7, ground := Ground.chain }], guard := none }) rfl (fun K hK => ?_) AllReadyH.nil
  go_simp
  go_at_call 38
  refine (itoa_any c2 _ (hT.below hb2) (by omega) (by omega)).mono ?_
  rintro e w3 ⟨rfl, hbx⟩
  have hb3 := hb2.trans (hbx.mono hb2.size)
  have hShb3 := And.intro (kK _ hb3) (kC _ hb3)
  clear hbx
  refine hK.out _ _ hShb3 (fun _ => ?_)
  clear hK
  try simp only [Act.put, List.setIfInBounds_toArray, List.set_cons_zero, List.set_cons_succ]
  refine wpAnyH_ready (rs := [11]) (by kernel_rfl) (by simp) ?_
  refine AllReadyH.cons (o := { dst := some 44, op := Op.buildSlice 25 4 #[(0, Operand.tmp 36), (1, Operand.tmp 37), (2, Operand.tmp 40), (3, Operand.tmp 43)], type := 25, pos := "stats.go:280", after := #[{ on := 3, ground := Ground.data }, { on := 4, ground := Ground.data }, { on := 7, ground := Ground.data }, { on := 10, ground := Ground.data }], guard := none }) rfl (fun K hK => ?_) AllReadyH.nil
  go_simp
  have hb4 := hb3.alloc hb3.size (.cells #[bytesV (kindWord k2), .string nm, bytesV (Lib.itoa c1), bytesV (Lib.itoa c2)] 9)
  have hS4 := And.intro (kK _ hb4) (kC _ hb4)
  refine hK.out _ _ hS4 (fun _ => ?_)
  clear hK
  try simp only [Act.put, List.setIfInBounds_toArray, List.set_cons_zero, List.set_cons_succ]
  obtain ⟨w4, hw4⟩ : ∃ w4, w4 = w3.alloc (.cells #[bytesV (kindWord k2), .string nm, bytesV (Lib.itoa c1), bytesV (Lib.itoa c2)] 9) := ⟨_, rfl⟩
  have hj := Tryz.strings_Join w3.heap.size 0 4 [⟨(kindWord k2).toArray⟩, nm, ⟨(Lib.itoa c1).toArray⟩, ⟨(Lib.itoa c2).toArray⟩] ⟨#[32]⟩ w4 (fun j x hx => by
    rw [hw4, cell_of_row _ _ _ _ _ _ (heap_alloc_new w3 _), Nat.zero_add]
    rcases j with _ | _ | _ | _ | j
    · simp at hx; subst hx; rfl
    · simp at hx; subst hx; rfl
    · simp at hx; subst hx; rfl
    · simp at hx; subst hx; rfl
    · simp at hx) (by rw [hw4]; simp) (by simp) (by simp) (by
      have e1 : (Lib.join (([⟨(kindWord k2).toArray⟩, nm, ⟨(Lib.itoa c1).toArray⟩, ⟨(Lib.itoa c2).toArray⟩] : List ByteArray).map (·.data.toList)) (⟨#[32]⟩ : ByteArray).data.toList) = Lib.join [kindWord k2, nm.data.toList, Lib.itoa c1, Lib.itoa c2] [32] := by simp
      rw [e1]; omega)
  have e1 : (Lib.join (([⟨(kindWord k2).toArray⟩, nm, ⟨(Lib.itoa c1).toArray⟩, ⟨(Lib.itoa c2).toArray⟩] : List ByteArray).map (·.data.toList)) (⟨#[32]⟩ : ByteArray).data.toList) = Lib.join [kindWord k2, nm.data.toList, Lib.itoa c1, Lib.itoa c2] [32] := by simp
  rw [e1] at hj
  obtain ⟨J, hJ⟩ : ∃ J, J = Lib.join [kindWord k2, nm.data.toList, Lib.itoa c1, Lib.itoa c2] [32] := ⟨_, rfl⟩
  rw [← hJ] at hj hjl hQ
  rw [← hw4] at hb4 ⊢
  have hj' := Lib.hid hj
  have hw4' := Lib.hid hw4
  have hJ' := Lib.hid hJ
  clear hj e1 hw4 hJ
  refine wpAnyH_ready (rs := [12]) (by kernel_rfl) (by simp) ?_
  refine AllReadyH.cons (o := { dst := some 45, op := Op.call { callee := Callee.value (Operand.func 40), args := #[Operand.tmp 44, Operand.const (Value.string { data := #[32] })], argTypes := #[25, 9] }, type := 9, pos := "stats.go:280", after := #[{ on := 11, ground := Ground.data }, { on := 10, ground := Ground.chain }], guard := none }) rfl (fun K hK => ?_) AllReadyH.nil
  go_simp
  go_at_call 40
  refine hj'.out.mono ?_
  rintro e w5 ⟨rfl, hbx⟩
  have hb5 := hb4.trans (hbx.mono hb4.size)
  have hS5 := And.intro (kK _ hb5) (kC _ hb5)
  clear hbx
  refine hK.out _ _ hS5 (fun _ => ?_)
  clear hK
  try simp only [Act.put, List.setIfInBounds_toArray, List.set_cons_zero, List.set_cons_succ]
  refine wpAnyH_take (i := 13) (oi := { dst := some 46, op := Op.binOp BinOp.add 9 (Operand.tmp 45) (Operand.const (Value.string { data := #[10] })) 9, type := 9, pos := "stats.go:280", after := #[{ on := 12, ground := Ground.data }], guard := none }) (v := (bytesV (J ++ [10]))) rfl (by kernel_rfl) (by kernel_rfl) (by kernel_rfl) (fun _ _ _ h => hP _ _ _ _ h) (Or.inl ⟨by rfl, fun W' hW' => by have hadd := add_nl J (by omega) W'; clear hW'; go_simp⟩) hS5 ?_
  try simp only [Act.put, List.setIfInBounds_toArray, List.set_cons_zero, List.set_cons_succ]
  have hw := writeString_any B b bs ⟨(J ++ [10]).toArray⟩ w5 (builder_below hbd hb5) (by have h1 := bsize (J ++ [10]); rw [List.length_append] at h1; simp at h1 ⊢; omega) (by have := hb5.size; omega)
  have hw2 := Lib.hid hw
  clear hw
  refine wpAnyH_ready (rs := [14]) (by kernel_rfl) (by simp) ?_
  refine AllReadyH.cons (o := { dst := some 47, op := Op.call { callee := Callee.value (Operand.func 39), args := #[Operand.tmp 3, Operand.tmp 46], argTypes := #[77, 9] }, type := 81, pos := "stats.go:280", after := #[{ on := 13, ground := Ground.data }, { on := 12, ground := Ground.chain }], guard := none }) rfl (fun K hK => ?_) AllReadyH.nil
  go_simp
  go_at_call 39
  refine hw2.out.mono ?_
  rintro e w6 ⟨rfl, hbd6, hbe6, hot6⟩
  have hS6 : w6.cell? ⟨kb, 1, none⟩ = some (.int .i64 k2) ∧ w6.cell? ⟨cb, 0, none⟩ = some (.int .i64 c1) ∧ w6.cell? ⟨cb, 1, none⟩ = some (.int .i64 c2) := by
    have g1 := others_cell hot6 (builder_below hbd hb5) ((hb5.block _ hkb).trans hkH) (by decide) (by decide)
    have g2 := others_cell hot6 (builder_below hbd hb5) ((hb5.block _ hcb).trans hcH) (by decide) (by decide)
    exact ⟨range_of_heap g1 1 _ rfl, range_of_heap g2 0 _ rfl, range_of_heap g2 1 _ rfl⟩
  refine hK.out _ _ hS6 (fun _ => ?_)
  clear hK
  try simp only [Act.put, List.setIfInBounds_toArray, List.set_cons_zero, List.set_cons_succ]
  refine wpAnyH_done (by kernel_rfl) ?_ _
  dsimp only at hQ
  exact hQ w5 w6 _ _ _ _ _ _ _ _ _ _ _ _ _ _ _ hb5 hbd6 hbe6 hot6
end Go.Proofs.YtlemadbmlnjhpaaGreatDoor
