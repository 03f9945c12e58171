/- maps.Equal, Stats.Equal: true where the maps hold the same. -/
/- Events in another order: the same entries, sizes and text. -/
/- The model's text: what it is; it is the statistics' text, without the names of the days before a day. -/
import Derived.Test.YtlemadbmlnjhpaaGreatDoorH3
import Derived.Test.YtlemadbmlnjhpaaGreatDoorH2
namespace Go.Proofs.YtlemadbmlnjhpaaGreatDoor
open Go Go.RowKit Go.Proofs
set_option linter.unusedSimpArgs false
set_option linter.unusedVariables false

theorem MapIs.len {w : World} {m : Nat} {L : List (Key × Cnt)} (h : MapIs w m L) (ty : TypeId) : (Builtin.len_ #[70] ty #[.map (some m)]).run Tryz.prog w = .ok (.int .i64 (L.length : Nat)) w := by
  obtain ⟨es, clock, h1, h2, _⟩ := h
  have hs : es.size = L.length := by
    have := congrArg List.length h2
    simpa using this
  simp [Builtin.len_, run_underlying Tryz.underlying70, MapKept.run_getObj_map h1, goInt, Result.andThen, hs]
theorem MapIs.lookupOk {w : World} {m : Nat} {L : List (Key × Cnt)} (h : MapIs w m L) (k : Key) {j : Nat} {c : Cnt} (hk : findL k L 0 = some (j, c)) :
    (Instr.lookup 70 (.map (some m)) (keyV k) true).run Tryz.prog w = .ok (.tuple #[cntV c, .bool true]) w := by
  obtain ⟨es, clock, h1, h2, _⟩ := h
  have hf := Tryz.run_findKey k w es.toList L h2
  have hc := Tryz.check_key es.isEmpty k w
  rw [hk] at hf
  simp [Instr.lookup, run_underlying Tryz.underlying70, MapKept.run_getObj_map h1, hc, hf, Result.andThen, Sem.run_pure]

theorem wpList_len_map {w : World} {ops : Array Oper} {rest : List Oper} {o : Oper} {a : Act} {Q : Exit → Act → World → Prop}
    (hg : o.guard = none) (x : Operand) (hop : o.op = Op.call { callee := Callee.builtin Builtin.len, args := #[x], argTypes := #[70] }) {m : Nat} {L : List (Key × Cnt)} (hm : a.eval x = .map (some m)) (h : MapIs w m L)
    (hK : wpList Tryz.prog ops Q rest (a.put o.dst (.int .i64 (L.length : Nat))) w) :
    wpList Tryz.prog ops Q (o :: rest) a w := by
  refine wpList_plain hg fun K' hK' => ?_
  unfold Oper.wp
  simp [execOp, hop, resolve, invoke, builtin, hm, h.len o.type, Result.andThen]
  exact hK' _ _ hK

/-- two maps that hold the same -/
def SameL (L M : List (Key × Cnt)) : Prop := L.length = M.length ∧ ∀ q ∈ L, ∃ j, findL q.1 M 0 = some (j, q.2)
set_option maxRecDepth 100000 in
set_option maxHeartbeats 3200000 in
theorem mapsEqual_any (m n : Nat) (L M : List (Key × Cnt)) (w : World) (hm : MapIs w m L) (hn : MapIs w n M) (hl : L.length ≤ 1000000) (hs : SameL L M) :
    Calls Tryz.prog 45 #[.map (some m), .map (some n)] w fun e w' => e = .returned (.bool true) ∧ Below w.heap.size w w' := by
  obtain ⟨hlen, hs⟩ := hs
  have hll : ((L.length : Nat) : Int) = (M.length : Nat) := by rw [hlen]
  have hll' := Lib.hid hll
  have hn' := Lib.hid hn
  have hs' := Lib.hid hs
  have hm' := Lib.hid hm
  have hq : (((L.length : Nat) : Int) != ((M.length : Nat) : Int)) = false := by rw [hll]; simp
  clear hll hn hs hm hlen
  go_enter Tryz.func45, Tryz.ntmps45
  go_wp2_with (first
    | (refine wpList_len_map rfl (.tmp 9) rfl rfl hm'.out ?_)
    | (refine wpList_len_map rfl (.tmp 11) rfl rfl hn'.out ?_)
    | (at_range; refine wpList_range_map rfl _ rfl rfl hm'.out ?_; intro ob hrg; have hrg' := Lib.hid hrg; clear hrg))
  go_frame
  go_loopg [] L.length (fun c wr => ∃ todo : List (Key × Cnt), c = todo.length ∧ (∀ q ∈ todo, q ∈ L) ∧ Ranging wr m w.heap.size L todo ∧ Below w.heap.size w wr)
  case atStart => exact ⟨L, rfl, fun q h => h, hrg'.out, (Below.refl _ _).alloc (Nat.le_refl _) _⟩
  case round =>
    obtain ⟨todo, rfl, hsub, hrg, hbel⟩ := hrel
    have hsub' := Lib.hid hsub
    have hbel' := Lib.hid hbel
    clear hsub hbel
    go_wp2_with (at_next; refine wpList_next_map rfl _ rfl rfl hrg ?_ ?_)
    · intro h0
      subst h0
      go_wp2_with fail
      go_ret
      exact ⟨rfl, hbel'.out⟩
    · intro k1 k2 k3 c1 c2 todo' w1 hperm hrg1 hg1 hsz1 hen
      have hmem : ((k1, k2, k3), (c1, c2)) ∈ L := hsub'.out _ (hperm.mem_iff.2 (by simp))
      obtain ⟨j, hj⟩ := hs'.out _ hmem
      have hbel1 : Below w.heap.size w w1 := hbel'.out.grown hg1 hbel'.out.size (fun j hj => by cases hj; exact Nat.le_refl _)
      obtain ⟨W, hW⟩ : ∃ W, W = (w1.alloc (.cells #[.int .i64 k1, .int .i64 k2, .string k3] 64)).alloc (.cells #[.int .i64 c1, .int .i64 c2] 34) := ⟨_, rfl⟩
      have hbW : Below w1.heap.size w1 W := by rw [hW]; exact ((Below.refl _ _).alloc (Nat.le_refl _) _).alloc (by simp) _
      have hlk := (hn'.out.below (hbel1.trans (hbW.mono hbel1.size)) hn'.out.lt).lookupOk (k1, k2, k3) hj
      have hlk' : (Instr.lookup 70 (.map (some n)) (.agg #[.int .i64 k1, .int .i64 k2, .string k3]) true).run Tryz.prog W = .ok (.tuple #[.agg #[.int .i64 c1, .int .i64 c2], .bool true]) W := hlk
      rw [hW] at hlk'
      have hrgW : Ranging W m w.heap.size L todo' := hrg1.block (hbW.block _ hrg1.lt.1) (hbW.block _ hrg1.lt.2.1)
      have hbelW := Lib.hid (hbel1.trans (hbW.mono hbel1.size))
      have hrgW' := Lib.hid hrgW
      have hW' := Lib.hid hW
      have hperm' := Lib.hid hperm
      have hec := Tryz.equal_cnt c1 c2
      clear hlk hrgW hbW hW hmem hj hperm hrg1 hg1 hsz1 hrg hbel1
      go_wp2_with fail
      go_roundg todo'.length
      case measure => have := hperm'.out.length_eq; simp at this; omega
      case rel =>
        rw [← hW'.out]
        refine ⟨todo', rfl, fun q hq => hsub'.out q (hperm'.out.mem_iff.2 (by simp [hq])), ?_, hbelW.out.alloc hbelW.out.size _⟩
        exact hrgW'.out.block (Below.heap_alloc _ _ _ hrgW'.out.lt.1) (Below.heap_alloc _ _ _ hrgW'.out.lt.2.1)
theorem StatsAt.range {w : World} {sb m : Nat} {L : List (Key × Cnt)} {zs : List Int} (h : StatsAt w sb m L zs) : w.rangeAt sb 1 (zs.map (Value.int .i64)) := fun j v hj => by
  rw [cell_of_row _ _ _ _ _ _ h.1]
  have : (Value.map (some m) :: zs.map (Value.int .i64))[1 + j]? = (zs.map (Value.int .i64))[j]? := by rw [Nat.add_comm]; rfl
  rw [List.getElem?_toArray, this]; exact hj
theorem keepE {w W' : World} {sb ob m n : Nat} {L M : List (Key × Cnt)} {zs : List Int} {cs : List Value} (h1 : StatsAt w sb m L zs) (h2 : StatsAt w ob n M zs) (hcs : cs = zs.map (Value.int .i64)) (hb : Below w.heap.size w W') :
    Below w.heap.size w W' ∧ W'.rangeAt sb 1 cs ∧ W'.rangeAt ob 1 cs ∧ W'.cell? ⟨sb, 0, none⟩ = some (.map (some m)) ∧ W'.cell? ⟨ob, 0, none⟩ = some (.map (some n)) := by
  have a := h1.below hb
  have b := h2.below hb
  subst hcs
  exact ⟨hb, a.range, b.range, a.cell0, b.cell0⟩
set_option maxRecDepth 100000 in
set_option maxHeartbeats 3200000 in
theorem equal_any (sb ob m n : Nat) (L M : List (Key × Cnt)) (zs : List Int) (w : World) (h1 : StatsAt w sb m L zs) (h2 : StatsAt w ob n M zs) (hl : L.length ≤ 1000000) (hs : SameL L M) :
    Calls Tryz.prog 22 #[.pointer (some ⟨sb, 0, none⟩), .pointer (some ⟨ob, 0, none⟩)] w fun e w' => e = .returned (.bool true) ∧ Below w.heap.size w w' := by
  obtain ⟨cs, hcs⟩ : ∃ cs, cs = zs.map (Value.int .i64) := ⟨_, rfl⟩
  have heq := Tryz.equal_arr zs h1.2.1
  rw [← hcs] at heq
  have hlen : cs.length = 18 := by rw [hcs, List.length_map]; exact h1.2.1
  have hi : (Tryz.prog.info? 41).map (·.size) = some cs.length := by rw [hlen]; exact Tryz.sizeArr
  have hu := Tryz.underlying41
  have h1' := Lib.hid h1
  have h2' := Lib.hid h2
  have hs' := Lib.hid hs
  have hcs' := Lib.hid hcs
  clear h1 h2 hs hcs
  go_enter Tryz.func22, Tryz.ntmps22
  go_wp2_with fail
  -- by hand
  refine wp_region_noPanic ?_
  have hH := keepE h1'.out h2'.out hcs'.out (Below.refl w.heap.size w).drew
  refine wp_region_held_drew (S := fun W' => Below w.heap.size w W' ∧ W'.rangeAt sb 1 cs ∧ W'.rangeAt ob 1 cs ∧ W'.cell? ⟨sb, 0, none⟩ = some (.map (some m)) ∧ W'.cell? ⟨ob, 0, none⟩ = some (.map (some n))) (by kernel_rfl) hH (fun _ => ?_)
  refine wpAnyH_take (i := 0) (oi := { dst := some 17, op := Op.move (Operand.tmp 0), type := 30, pos := "stats.go:438", after := #[], guard := none }) (v := (.pointer (some ⟨sb, 0, none⟩))) rfl (by kernel_rfl) (by kernel_rfl) (by kernel_rfl) (fun _ _ _ h => h) (Or.inl ⟨by rfl, fun w hSw => by obtain ⟨hSb, hSr1, hSr2, hSc1, hSc2⟩ := hSw; clear hSb hSr1 hSr2; go_simp⟩) hH ?_
  try simp only [Act.put, List.setIfInBounds_toArray, List.set_cons_zero, List.set_cons_succ]
  refine wpAnyH_take (i := 1) (oi := { dst := some 18, op := Op.nilCheck (Operand.tmp 17), type := 0, pos := "stats.go:438", after := #[{ on := 0, ground := Ground.data }], guard := none }) (v := (.pointer (some ⟨sb, 0, none⟩))) rfl (by kernel_rfl) (by kernel_rfl) (by kernel_rfl) (fun _ _ _ h => h) (Or.inl ⟨by rfl, fun w hSw => by obtain ⟨hSb, hSr1, hSr2, hSc1, hSc2⟩ := hSw; clear hSb hSr1 hSr2; go_simp⟩) hH ?_
  try simp only [Act.put, List.setIfInBounds_toArray, List.set_cons_zero, List.set_cons_succ]
  refine wpAnyH_take (i := 2) (oi := { dst := some 19, op := Op.fieldAddr 72 (Operand.tmp 18) 1, type := 0, pos := "stats.go:438", after := #[{ on := 1, ground := Ground.data }], guard := none }) (v := (.pointer (some ⟨sb, 1, none⟩))) rfl (by kernel_rfl) (by kernel_rfl) (by kernel_rfl) (fun _ _ _ h => h) (Or.inl ⟨by rfl, fun w hSw => by obtain ⟨hSb, hSr1, hSr2, hSc1, hSc2⟩ := hSw; clear hSb hSr1 hSr2; go_simp⟩) hH ?_
  try simp only [Act.put, List.setIfInBounds_toArray, List.set_cons_zero, List.set_cons_succ]
  refine wpAnyH_take (i := 3) (oi := { dst := some 20, op := Op.load 41 (Operand.tmp 19), type := 41, pos := "stats.go:438", after := #[{ on := 2, ground := Ground.data }], guard := none }) (v := (.agg cs.toArray)) rfl (by kernel_rfl) (by kernel_rfl) (by kernel_rfl) (fun _ _ _ h => h) (yieldsIf_load_mid (by rfl) _ _ rfl sb 1 rfl cs _ (fun W' hW => hW.2.1) hu rfl hi) hH ?_
  try simp only [Act.put, List.setIfInBounds_toArray, List.set_cons_zero, List.set_cons_succ]
  refine wpAnyH_take (i := 4) (oi := { dst := some 21, op := Op.move (Operand.tmp 1), type := 30, pos := "stats.go:438", after := #[], guard := none }) (v := (.pointer (some ⟨ob, 0, none⟩))) rfl (by kernel_rfl) (by kernel_rfl) (by kernel_rfl) (fun _ _ _ h => h) (Or.inl ⟨by rfl, fun w hSw => by obtain ⟨hSb, hSr1, hSr2, hSc1, hSc2⟩ := hSw; clear hSb hSr1 hSr2; go_simp⟩) hH ?_
  try simp only [Act.put, List.setIfInBounds_toArray, List.set_cons_zero, List.set_cons_succ]
  refine wpAnyH_take (i := 5) (oi := { dst := some 22, op := Op.nilCheck (Operand.tmp 21), type := 0, pos := "stats.go:438", after := #[{ on := 4, ground := Ground.data }], guard := none }) (v := (.pointer (some ⟨ob, 0, none⟩))) rfl (by kernel_rfl) (by kernel_rfl) (by kernel_rfl) (fun _ _ _ h => h) (Or.inl ⟨by rfl, fun w hSw => by obtain ⟨hSb, hSr1, hSr2, hSc1, hSc2⟩ := hSw; clear hSb hSr1 hSr2; go_simp⟩) hH ?_
  try simp only [Act.put, List.setIfInBounds_toArray, List.set_cons_zero, List.set_cons_succ]
  refine wpAnyH_take (i := 6) (oi := { dst := some 23, op := Op.fieldAddr 72 (Operand.tmp 22) 1, type := 0, pos := "stats.go:438", after := #[{ on := 5, ground := Ground.data }], guard := none }) (v := (.pointer (some ⟨ob, 1, none⟩))) rfl (by kernel_rfl) (by kernel_rfl) (by kernel_rfl) (fun _ _ _ h => h) (Or.inl ⟨by rfl, fun w hSw => by obtain ⟨hSb, hSr1, hSr2, hSc1, hSc2⟩ := hSw; clear hSb hSr1 hSr2; go_simp⟩) hH ?_
  try simp only [Act.put, List.setIfInBounds_toArray, List.set_cons_zero, List.set_cons_succ]
  refine wpAnyH_take (i := 7) (oi := { dst := some 24, op := Op.load 41 (Operand.tmp 23), type := 41, pos := "stats.go:438", after := #[{ on := 6, ground := Ground.data }], guard := none }) (v := (.agg cs.toArray)) rfl (by kernel_rfl) (by kernel_rfl) (by kernel_rfl) (fun _ _ _ h => h) (yieldsIf_load_mid (by rfl) _ _ rfl ob 1 rfl cs _ (fun W' hW => hW.2.2.1) hu rfl hi) hH ?_
  try simp only [Act.put, List.setIfInBounds_toArray, List.set_cons_zero, List.set_cons_succ]
  refine wpAnyH_take (i := 8) (oi := { dst := some 25, op := Op.binOp BinOp.eql 41 (Operand.tmp 20) (Operand.tmp 24) 41, type := 4, pos := "stats.go:438", after := #[{ on := 3, ground := Ground.data }, { on := 7, ground := Ground.data }], guard := none }) (v := (.bool true)) rfl (by kernel_rfl) (by kernel_rfl) (by kernel_rfl) (fun _ _ _ h => h) (Or.inl ⟨by rfl, fun w hSw => by obtain ⟨hSb, hSr1, hSr2, hSc1, hSc2⟩ := hSw; clear hSb hSr1 hSr2; go_simp⟩) hH ?_
  try simp only [Act.put, List.setIfInBounds_toArray, List.set_cons_zero, List.set_cons_succ]
  refine wpAnyH_take (i := 9) (oi := { dst := some 26, op := Op.move (Operand.tmp 25), type := 4, pos := "stats.go:438", after := #[{ on := 8, ground := Ground.data }], guard := none }) (v := (.bool true)) rfl (by kernel_rfl) (by kernel_rfl) (by kernel_rfl) (fun _ _ _ h => h) (Or.inl ⟨by rfl, fun w hSw => by obtain ⟨hSb, hSr1, hSr2, hSc1, hSc2⟩ := hSw; clear hSb hSr1 hSr2; go_simp⟩) hH ?_
  try simp only [Act.put, List.setIfInBounds_toArray, List.set_cons_zero, List.set_cons_succ]
  refine wpAnyH_take (i := 10) (oi := { dst := some 27, op := Op.move (Operand.tmp 0), type := 30, pos := "stats.go:438", after := #[{ on := 9, ground := Ground.guard }], guard := some (9, true) }) (v := (.pointer (some ⟨sb, 0, none⟩))) rfl (by kernel_rfl) (by kernel_rfl) (by kernel_rfl) (fun _ _ _ h => h) (Or.inl ⟨by rfl, fun w hSw => by obtain ⟨hSb, hSr1, hSr2, hSc1, hSc2⟩ := hSw; clear hSb hSr1 hSr2; go_simp⟩) hH ?_
  try simp only [Act.put, List.setIfInBounds_toArray, List.set_cons_zero, List.set_cons_succ]
  refine wpAnyH_take (i := 11) (oi := { dst := some 28, op := Op.nilCheck (Operand.tmp 27), type := 0, pos := "stats.go:438", after := #[{ on := 10, ground := Ground.data }, { on := 9, ground := Ground.guard }], guard := some (9, true) }) (v := (.pointer (some ⟨sb, 0, none⟩))) rfl (by kernel_rfl) (by kernel_rfl) (by kernel_rfl) (fun _ _ _ h => h) (Or.inl ⟨by rfl, fun w hSw => by obtain ⟨hSb, hSr1, hSr2, hSc1, hSc2⟩ := hSw; clear hSb hSr1 hSr2; go_simp⟩) hH ?_
  try simp only [Act.put, List.setIfInBounds_toArray, List.set_cons_zero, List.set_cons_succ]
  refine wpAnyH_take (i := 12) (oi := { dst := some 29, op := Op.fieldAddr 72 (Operand.tmp 28) 0, type := 0, pos := "stats.go:438", after := #[{ on := 11, ground := Ground.data }, { on := 9, ground := Ground.guard }], guard := some (9, true) }) (v := (.pointer (some ⟨sb, 0, none⟩))) rfl (by kernel_rfl) (by kernel_rfl) (by kernel_rfl) (fun _ _ _ h => h) (Or.inl ⟨by rfl, fun w hSw => by obtain ⟨hSb, hSr1, hSr2, hSc1, hSc2⟩ := hSw; clear hSb hSr1 hSr2; go_simp⟩) hH ?_
  try simp only [Act.put, List.setIfInBounds_toArray, List.set_cons_zero, List.set_cons_succ]
  refine wpAnyH_take (i := 13) (oi := { dst := some 30, op := Op.load 70 (Operand.tmp 29), type := 70, pos := "stats.go:438", after := #[{ on := 12, ground := Ground.data }, { on := 9, ground := Ground.guard }], guard := some (9, true) }) (v := (.map (some m))) rfl (by kernel_rfl) (by kernel_rfl) (by kernel_rfl) (fun _ _ _ h => h) (Or.inl ⟨by rfl, fun w hSw => by obtain ⟨hSb, hSr1, hSr2, hSc1, hSc2⟩ := hSw; clear hSb hSr1 hSr2; go_simp⟩) hH ?_
  try simp only [Act.put, List.setIfInBounds_toArray, List.set_cons_zero, List.set_cons_succ]
  refine wpAnyH_take (i := 14) (oi := { dst := some 31, op := Op.move (Operand.tmp 1), type := 30, pos := "stats.go:438", after := #[{ on := 9, ground := Ground.guard }], guard := some (9, true) }) (v := (.pointer (some ⟨ob, 0, none⟩))) rfl (by kernel_rfl) (by kernel_rfl) (by kernel_rfl) (fun _ _ _ h => h) (Or.inl ⟨by rfl, fun w hSw => by obtain ⟨hSb, hSr1, hSr2, hSc1, hSc2⟩ := hSw; clear hSb hSr1 hSr2; go_simp⟩) hH ?_
  try simp only [Act.put, List.setIfInBounds_toArray, List.set_cons_zero, List.set_cons_succ]
  refine wpAnyH_take (i := 15) (oi := { dst := some 32, op := Op.nilCheck (Operand.tmp 31), type := 0, pos := "stats.go:438", after := #[{ on := 14, ground := Ground.data }, { on := 9, ground := Ground.guard }], guard := some (9, true) }) (v := (.pointer (some ⟨ob, 0, none⟩))) rfl (by kernel_rfl) (by kernel_rfl) (by kernel_rfl) (fun _ _ _ h => h) (Or.inl ⟨by rfl, fun w hSw => by obtain ⟨hSb, hSr1, hSr2, hSc1, hSc2⟩ := hSw; clear hSb hSr1 hSr2; go_simp⟩) hH ?_
  try simp only [Act.put, List.setIfInBounds_toArray, List.set_cons_zero, List.set_cons_succ]
  refine wpAnyH_take (i := 16) (oi := { dst := some 33, op := Op.fieldAddr 72 (Operand.tmp 32) 0, type := 0, pos := "stats.go:438", after := #[{ on := 15, ground := Ground.data }, { on := 9, ground := Ground.guard }], guard := some (9, true) }) (v := (.pointer (some ⟨ob, 0, none⟩))) rfl (by kernel_rfl) (by kernel_rfl) (by kernel_rfl) (fun _ _ _ h => h) (Or.inl ⟨by rfl, fun w hSw => by obtain ⟨hSb, hSr1, hSr2, hSc1, hSc2⟩ := hSw; clear hSb hSr1 hSr2; go_simp⟩) hH ?_
  try simp only [Act.put, List.setIfInBounds_toArray, List.set_cons_zero, List.set_cons_succ]
  refine wpAnyH_take (i := 17) (oi := { dst := some 34, op := Op.load 70 (Operand.tmp 33), type := 70, pos := "stats.go:438", after := #[{ on := 16, ground := Ground.data }, { on := 9, ground := Ground.guard }], guard := some (9, true) }) (v := (.map (some n))) rfl (by kernel_rfl) (by kernel_rfl) (by kernel_rfl) (fun _ _ _ h => h) (Or.inl ⟨by rfl, fun w hSw => by obtain ⟨hSb, hSr1, hSr2, hSc1, hSc2⟩ := hSw; clear hSb hSr1 hSr2; go_simp⟩) hH ?_
  try simp only [Act.put, List.setIfInBounds_toArray, List.set_cons_zero, List.set_cons_succ]
  refine wpAnyH_ready (rs := [18]) (by kernel_rfl) (by simp) ?_
  refine AllReadyH.cons (o := { dst := some 35, op := Op.call { callee := Callee.value (Operand.func 45), args := #[Operand.tmp 30, Operand.tmp 34], argTypes := #[70, 70] }, type := 4, pos := "stats.go:438", after := #[{ on := 13, ground := Ground.data }, { on := 17, ground := Ground.data }, { on := 9, ground := Ground.chain }, { on := 9, ground := Ground.guard }], guard := some (9, true) }) rfl (fun K hK => ?_) AllReadyH.nil
  go_simp
  go_at_call 45
  refine (mapsEqual_any m n L M _ (h1'.out.below (Below.refl w.heap.size w).drew).2.2 (h2'.out.below (Below.refl w.heap.size w).drew).2.2 hl hs'.out).mono ?_
  rintro e w5 ⟨rfl, hbE0⟩
  have hbE : Below w.heap.size w w5 := (Below.refl w.heap.size w).drew.trans hbE0
  have hH5 := keepE h1'.out h2'.out hcs'.out hbE
  refine hK.out _ _ hH5 (fun _ => ?_)
  clear hK hbE0
  try simp only [Act.put, List.setIfInBounds_toArray, List.set_cons_zero, List.set_cons_succ]
  refine wpAnyH_take (i := 19) (oi := { dst := some 36, op := Op.pick (Operand.tmp 26) (Operand.tmp 35) (Operand.const (Value.bool false)), type := 4, pos := "stats.go:438", after := #[{ on := 9, ground := Ground.data }, { on := 18, ground := Ground.data }], guard := none }) (v := (.bool true)) rfl (by kernel_rfl) (by kernel_rfl) (by kernel_rfl) (fun _ _ _ h => h) (Or.inl ⟨by rfl, fun w hSw => by obtain ⟨hSb, hSr1, hSr2, hSc1, hSc2⟩ := hSw; clear hSb hSr1 hSr2; go_simp⟩) hH5 ?_
  try simp only [Act.put, List.setIfInBounds_toArray, List.set_cons_zero, List.set_cons_succ]
  refine wpAnyH_take (i := 20) (oi := { dst := some 4, op := Op.assign (Operand.tmp 36), type := 4, pos := "stats.go:438", after := #[{ on := 19, ground := Ground.data }, { on := 18, ground := Ground.chain }, { on := 0, ground := Ground.phase }, { on := 1, ground := Ground.phase }, { on := 2, ground := Ground.phase }, { on := 3, ground := Ground.phase }, { on := 4, ground := Ground.phase }, { on := 5, ground := Ground.phase }, { on := 6, ground := Ground.phase }, { on := 7, ground := Ground.phase }, { on := 8, ground := Ground.phase }, { on := 9, ground := Ground.phase }, { on := 10, ground := Ground.phase }, { on := 11, ground := Ground.phase }, { on := 12, ground := Ground.phase }, { on := 13, ground := Ground.phase }, { on := 14, ground := Ground.phase }, { on := 15, ground := Ground.phase }, { on := 16, ground := Ground.phase }, { on := 17, ground := Ground.phase }, { on := 18, ground := Ground.phase }, { on := 19, ground := Ground.phase }], guard := none }) (v := (.bool true)) rfl (by kernel_rfl) (by kernel_rfl) (by kernel_rfl) (fun _ _ _ h => h) (Or.inl ⟨by rfl, fun w hSw => by obtain ⟨hSb, hSr1, hSr2, hSc1, hSc2⟩ := hSw; clear hSb hSr1 hSr2; go_simp⟩) hH5 ?_
  try simp only [Act.put, List.setIfInBounds_toArray, List.set_cons_zero, List.set_cons_succ]
  refine wpAnyH_done (by kernel_rfl) ?_ _
  refine NoPanic.normal ?_
  -- back
  go_wp2_with fail
  go_ret
  exact ⟨rfl, hbE⟩
end Go.Proofs.YtlemadbmlnjhpaaGreatDoor
namespace Go.Proofs.YtlemadbmlnjhpaaGreatDoor
open Go Go.RowKit Go.Proofs
set_option linter.unusedSimpArgs false
set_option linter.unusedVariables false

theorem sum_perm {α : Type} (f : α → Int) {a b : List α} (h : a.Perm b) : (a.map f).sum = (b.map f).sum := by
  induction h with
  | nil => rfl
  | cons x _ ih => simp [ih]
  | swap x y l => simp; omega
  | trans _ _ h1 h2 => exact h1.trans h2
def evN (p : Key → Bool) (e : Ev) : Int := if e.err = 0 then ((e.keys.countP p : Nat) : Int) else 0
def evB (p : Key → Bool) (e : Ev) : Int := if e.err = 0 then ((e.keys.countP p : Nat) : Int) * e.b else 0
theorem sum_adds_eq (p : Key → Bool) : ∀ (es : List Ev) (L : List (Key × Cnt)), (sumBy p (addsL L es)).1 = (sumBy p L).1 + (es.map (evN p)).sum ∧ (sumBy p (addsL L es)).2 = (sumBy p L).2 + (es.map (evB p)).sum
  | [], L => by simp [addsL]
  | e :: r, L => by
    have ih := sum_adds_eq p r (addL L e.mi e.au e.gs e.ss e.b)
    have e1 : (sumBy p (addL L e.mi e.au e.gs e.ss e.b)).1 = (sumBy p L).1 + evN p e ∧ (sumBy p (addL L e.mi e.au e.gs e.ss e.b)).2 = (sumBy p L).2 + evB p e := by
      unfold addL evN evB
      by_cases h : e.err = 0
      · have h' : evErr e.mi e.gs e.ss e.b = 0 := h
        rw [if_pos h', if_pos h, if_pos h]
        exact sumBy_bumps p e.b _ L
      · have h' : ¬ evErr e.mi e.gs e.ss e.b = 0 := h
        rw [if_neg h', if_neg h, if_neg h]; simp
    show (sumBy p (addsL (addL L e.mi e.au e.gs e.ss e.b) r)).1 = _ ∧ (sumBy p (addsL (addL L e.mi e.au e.gs e.ss e.b) r)).2 = _
    rw [ih.1, ih.2, e1.1, e1.2]
    simp only [List.map_cons, List.sum_cons]
    omega
theorem sum_adds_perm (p : Key → Bool) {es fs : List Ev} (h : es.Perm fs) : sumBy p (addsL [] es) = sumBy p (addsL [] fs) := by
  have h1 := sum_adds_eq p es []
  have h2 := sum_adds_eq p fs []
  exact Prod.ext (by rw [h1.1, h2.1, sum_perm _ h]) (by rw [h1.2, h2.2, sum_perm _ h])
theorem sumBy_absent (x : Key) : ∀ (L : List (Key × Cnt)), x ∉ L.map Prod.fst → sumBy (fun k => keyEq x k) L = (0, 0)
  | [], _ => rfl
  | q :: r, h => by
    have hq : ¬ keyEq x q.1 = true := fun he => h (by rw [(keyEq_iff _ _).1 he]; simp)
    unfold sumBy
    rw [if_neg hq]
    exact sumBy_absent x r (fun hm => h (by simp only [List.map_cons, List.mem_cons]; exact Or.inr hm))
theorem getL_sum (x : Key) : ∀ (L : List (Key × Cnt)), (L.map Prod.fst).Nodup → getL x L = sumBy (fun k => keyEq x k) L
  | [], _ => rfl
  | q :: r, h => by
    rw [List.map_cons, List.nodup_cons] at h
    rw [getL_cons, sumBy]
    by_cases hq : keyEq x q.1 = true
    · rw [if_pos hq, if_pos hq, sumBy_absent x r (by rw [(keyEq_iff _ _).1 hq]; exact h.1)]; simp
    · rw [if_neg hq, if_neg hq]; exact getL_sum x r h.2
theorem nodup_adds (es : List Ev) : ((addsL [] es).map Prod.fst).Nodup := nodup_addsL (by simp)
theorem getL_perm {es fs : List Ev} (h : es.Perm fs) (x : Key) : getL x (addsL [] es) = getL x (addsL [] fs) := by
  rw [getL_sum x _ (nodup_adds es), getL_sum x _ (nodup_adds fs), sum_adds_perm _ h]
theorem perm_of_nodup {α : Type} [DecidableEq α] {a b : List α} (ha : a.Nodup) (hb : b.Nodup) (h : ∀ x, x ∈ a ↔ x ∈ b) : a.Perm b := by
  rw [List.perm_iff_count]
  intro x
  rw [ha.count, hb.count]
  simp only [h x]
theorem keys_perm {es fs : List Ev} (h : es.Perm fs) : ((addsL [] es).map Prod.fst).Perm ((addsL [] fs).map Prod.fst) :=
  perm_of_nodup (nodup_adds es) (nodup_adds fs) fun x => by
    rw [mem_keys_addsL, mem_keys_addsL]
    have hp : ∀ e, e ∈ okEvs es ↔ e ∈ okEvs fs := fun e => by unfold okEvs; simp only [List.mem_filter, h.mem_iff]
    simp only [hp]
theorem findL_of_mem (x : Key) : ∀ (L : List (Key × Cnt)) (i : Nat), x ∈ L.map Prod.fst → ∃ j c, findL x L i = some (j, c)
  | [], _, h => by simp at h
  | q :: r, i, h => by
    unfold findL
    by_cases hq : keyEq x q.1 = true
    · exact ⟨i, q.2, if_pos hq⟩
    · rw [if_neg hq]
      refine findL_of_mem x r (i + 1) ?_
      rw [List.map_cons, List.mem_cons] at h
      exact h.resolve_left fun he => hq ((keyEq_iff _ _).2 he)
theorem getL_mem {L : List (Key × Cnt)} (h : (L.map Prod.fst).Nodup) {q : Key × Cnt} (hq : q ∈ L) : getL q.1 L = q.2 := by
  induction L with
  | nil => simp at hq
  | cons p r ih =>
    rw [List.map_cons, List.nodup_cons] at h
    rw [getL_cons]
    rcases List.mem_cons.1 hq with rfl | hm
    · rw [if_pos ((keyEq_iff _ _).2 rfl)]
    · rw [if_neg (fun he => h.1 (by rw [← (keyEq_iff _ _).1 he]; exact List.mem_map.2 ⟨q, hm, rfl⟩))]
      exact ih h.2 hm
/-- the same keys, the same counts -/
structure SameK (L M : List (Key × Cnt)) : Prop where
  nl : (L.map Prod.fst).Nodup
  nm : (M.map Prod.fst).Nodup
  keys : (L.map Prod.fst).Perm (M.map Prod.fst)
  get : ∀ x, getL x L = getL x M
theorem SameK.symm {L M : List (Key × Cnt)} (h : SameK L M) : SameK M L := ⟨h.nm, h.nl, h.keys.symm, fun x => (h.get x).symm⟩
theorem SameK.same {L M : List (Key × Cnt)} (h : SameK L M) : SameL L M := by
  refine ⟨by simpa using h.keys.length_eq, fun q hq => ?_⟩
  obtain ⟨j, c, hf⟩ := findL_of_mem q.1 M 0 (h.keys.mem_iff.1 (List.mem_map.2 ⟨q, hq, rfl⟩))
  have hg : getL q.1 M = c := by unfold getL; rw [hf]; rfl
  rw [← h.get, getL_mem h.nl hq] at hg
  exact ⟨j, by rw [hf, hg]⟩
theorem SameK.text {L M : List (Key × Cnt)} (h : SameK L M) (zs : List Int) : textK L zs = textK M zs := by
  unfold textK linesK
  rw [sortK_of_perm h.keys]
  simp only [h.get]
theorem sameK_perm {es fs : List Ev} (h : es.Perm fs) : SameK (addsL [] es) (addsL [] fs) := ⟨nodup_adds _, nodup_adds _, keys_perm h, getL_perm h⟩
theorem incZ_len (zs : List Int) (b : Int) : (incZ zs b).length = zs.length := by simp [incZ]
theorem incZ_get (zs : List Int) (b : Int) (i : Nat) : (incZ zs b)[i]? = if Lib.bitLen b.toNat = i then (if i < zs.length then some (zs.getD i 0 + 1) else none) else zs[i]? := by
  unfold incZ
  rw [List.getElem?_set]
  split
  · rename_i h; subst h; rfl
  · rfl
theorem incZ_getD (zs : List Int) (b : Int) (i : Nat) (h : i < zs.length) : (incZ zs b).getD i 0 = zs.getD i 0 + (if Lib.bitLen b.toNat = i then 1 else 0) := by
  rw [List.getD_eq_getElem?_getD, incZ_get]
  split
  · rfl
  · rw [List.getD_eq_getElem?_getD]; simp
theorem incZ_comm (zs : List Int) (a b : Int) : incZ (incZ zs a) b = incZ (incZ zs b) a := by
  refine List.ext_getElem? fun i => ?_
  by_cases hi : i < zs.length
  · have h1 : i < (incZ (incZ zs a) b).length := by rw [incZ_len, incZ_len]; exact hi
    have h2 : i < (incZ (incZ zs b) a).length := by rw [incZ_len, incZ_len]; exact hi
    have e1 := incZ_getD (incZ zs a) b i (by rw [incZ_len]; exact hi)
    have e2 := incZ_getD (incZ zs b) a i (by rw [incZ_len]; exact hi)
    rw [incZ_getD zs a i hi] at e1
    rw [incZ_getD zs b i hi] at e2
    rw [List.getD_eq_getElem?_getD, List.getElem?_eq_getElem h1, Option.getD_some] at e1
    rw [List.getD_eq_getElem?_getD, List.getElem?_eq_getElem h2, Option.getD_some] at e2
    rw [List.getElem?_eq_getElem h1, List.getElem?_eq_getElem h2, e1, e2]
    exact congrArg some (by omega)
  · rw [List.getElem?_eq_none (by rw [incZ_len, incZ_len]; omega), List.getElem?_eq_none (by rw [incZ_len, incZ_len]; omega)]
theorem szM_perm {es fs : List Ev} (h : es.Perm fs) : szM es = szM fs :=
  h.foldl_eq' (fun x _ y _ z => incZ_comm z x.b y.b) noSizes
theorem addsZ_perm {es fs : List Ev} (h : es.Perm fs) : addsZ noSizes es = addsZ noSizes fs := by
  rw [addsZ_szM, addsZ_szM]
  exact szM_perm (h.filter _)

/-! ### the turned list -/
theorem turn_perm {α : Type} (es : List α) (t : Nat) (d : α) : ((List.range es.length).map fun i => es.getD ((es.length - 1 - i + t) % es.length) d).Perm es := by
  obtain ⟨n, hn⟩ : ∃ n, n = es.length := ⟨_, rfl⟩
  rw [← hn]
  have h0 : es = (List.range n).map fun i => es.getD i d := by
    refine List.ext_getElem? fun i => ?_
    rw [List.getElem?_map]
    by_cases hi : i < n
    · rw [List.getElem?_range hi, List.getElem?_eq_getElem (by omega), Option.map_some, List.getD_eq_getElem?_getD, List.getElem?_eq_getElem (by omega)]; rfl
    · rw [List.getElem?_eq_none (by omega), List.getElem?_eq_none (by simpa using hi)]; rfl
  have key : ((List.range n).map fun i => (n - 1 - i + t) % n).Perm (List.range n) := by
    by_cases hz : n = 0
    · subst hz; exact List.Perm.refl _
    have hpos : 0 < n := by omega
    obtain ⟨r, hr⟩ : ∃ r, r = t % n := ⟨_, rfl⟩
    have hrn : r < n := by rw [hr]; exact Nat.mod_lt _ hpos
    have e1 : ((List.range n).map fun i => (n - 1 - i + t) % n) = ((List.range n).map fun j => (j + r) % n).reverse := by
      refine List.ext_getElem? fun i => ?_
      by_cases hi : i < n
      · rw [List.getElem?_reverse (by simpa using hi), List.getElem?_map, List.getElem?_map, List.length_map, List.length_range, List.getElem?_range hi, List.getElem?_range (by omega), Option.map_some, Option.map_some, hr, Nat.add_mod_mod]
      · rw [List.getElem?_eq_none (by simpa using hi), List.getElem?_eq_none (by simpa using hi)]
    have e2 : ((List.range n).map fun j => (j + r) % n) = (List.range (n - r)).map (fun j => r + j) ++ List.range r := by
      refine List.ext_getElem? fun i => ?_
      rw [List.getElem?_append, List.length_map, List.length_range, List.getElem?_map]
      by_cases hi : i < n
      · rw [List.getElem?_range hi]
        by_cases h2 : i < n - r
        · rw [if_pos h2, List.getElem?_map, List.getElem?_range h2, Option.map_some, Option.map_some, Nat.mod_eq_of_lt (by omega)]
          exact congrArg some (by omega)
        · rw [if_neg h2, List.getElem?_range (by omega), Option.map_some, Nat.mod_eq_sub_mod (by omega), Nat.mod_eq_of_lt (by omega)]
          exact congrArg some (by omega)
      · rw [List.getElem?_eq_none (by simpa using hi), if_neg (by omega), List.getElem?_eq_none (by simp; omega)]; rfl
    rw [e1, e2]
    refine (List.reverse_perm _).trans (List.perm_append_comm.trans ?_)
    rw [← List.range_add, show r + (n - r) = n by omega]
  have := key.map (fun i => es.getD i d)
  rw [List.map_map, ← h0] at this
  exact this
end Go.Proofs.YtlemadbmlnjhpaaGreatDoor
namespace Go.Proofs.YtlemadbmlnjhpaaGreatDoor
open Go Go.RowKit Go.Proofs
set_option linter.unusedSimpArgs false
set_option linter.unusedVariables false

/-- how many strings at the head of a list are less than s -/
def atS (s : ByteArray) : List ByteArray → Nat
  | [] => 0
  | x :: r => if cbK x s < 0 then atS s r + 1 else 0
theorem atS_le (s : ByteArray) : ∀ l : List ByteArray, atS s l ≤ l.length
  | [] => Nat.le_refl _
  | x :: r => by
    have := atS_le s r
    unfold atS
    split
    · simp; omega
    · simp
def insS (l : List ByteArray) (s : ByteArray) : List ByteArray := if l[atS s l]? = some s then l else l.take (atS s l) ++ [s] ++ l.drop (atS s l)
def insR (s : ByteArray) : List ByteArray → List ByteArray
  | [] => [s]
  | x :: r => if cbK x s < 0 then x :: insR s r else if x = s then x :: r else s :: x :: r
theorem insS_eq (s : ByteArray) : ∀ l : List ByteArray, insS l s = insR s l
  | [] => by simp [insS, insR, atS]
  | x :: r => by
    have ih := insS_eq s r
    unfold insS atS insR
    by_cases h : cbK x s < 0
    · rw [if_pos h, if_pos h, ← ih]
      unfold insS
      rw [List.getElem?_cons_succ]
      split
      · rfl
      · simp
    · rw [if_neg h, if_neg h]
      simp only [List.getElem?_cons_zero, Option.some.injEq, List.take_zero, List.drop_zero, List.nil_append]
      split
      · rfl
      · rfl
theorem insS_len (l : List ByteArray) (s : ByteArray) : (insS l s).length ≤ l.length + 1 := by
  unfold insS
  split
  · omega
  · simp; omega
theorem mem_insR {s x : ByteArray} : ∀ {l : List ByteArray}, x ∈ insR s l ↔ x = s ∨ x ∈ l
  | [] => by simp [insR]
  | y :: r => by
    unfold insR
    split
    · rw [List.mem_cons, mem_insR, List.mem_cons]
      constructor
      · rintro (h | h | h)
        · exact .inr (.inl h)
        · exact .inl h
        · exact .inr (.inr h)
      · rintro (h | h | h)
        · exact .inr (.inl h)
        · exact .inl h
        · exact .inr (.inr h)
    · split
      · rename_i h; subst h; simp
      · simp
def SortedS (l : List ByteArray) : Prop := l.Pairwise fun x y => cbK x y < 0
theorem insR_sorted {s : ByteArray} : ∀ {l : List ByteArray}, SortedS l → SortedS (insR s l)
  | [], _ => by simp [insR, SortedS]
  | y :: r, h => by
    have h1 := List.pairwise_cons.1 h
    unfold insR
    split
    · rename_i hlt
      refine List.pairwise_cons.2 ⟨fun z hz => ?_, insR_sorted h1.2⟩
      rcases mem_insR.1 hz with rfl | hz
      · exact hlt
      · exact h1.1 z hz
    · rename_i hnl
      split
      · exact h
      · rename_i hne
        have hsy : cbK s y < 0 := (totC_bytes.anti s y).2 (by
          have h0 : cbK y s ≠ 0 := fun h0 => hne ((totC_bytes.eq y s).1 h0)
          omega)
        refine List.pairwise_cons.2 ⟨fun z hz => ?_, h⟩
        rcases List.mem_cons.1 hz with rfl | hz
        · exact hsy
        · exact totC_bytes.trans _ _ _ hsy (h1.1 z hz)
theorem foldIns_facts : ∀ (xs out : List ByteArray), SortedS out → SortedS (xs.foldl insS out) ∧ ∀ x, x ∈ xs.foldl insS out ↔ x ∈ xs ∨ x ∈ out
  | [], out, h => ⟨h, fun x => by simp⟩
  | y :: r, out, h => by
    have ih := foldIns_facts r (insS out y) (by rw [insS_eq]; exact insR_sorted h)
    refine ⟨ih.1, fun x => ?_⟩
    rw [List.foldl_cons, ih.2, insS_eq, mem_insR, List.mem_cons]
    constructor
    · rintro (h | h | h)
      · exact .inl (.inr h)
      · exact .inl (.inl h)
      · exact .inr h
    · rintro ((h | h) | h)
      · exact .inr (.inl h)
      · exact .inl h
      · exact .inr (.inr h)
theorem foldIns_len : ∀ (xs out : List ByteArray), (xs.foldl insS out).length ≤ out.length + xs.length
  | [], out => by simp
  | y :: r, out => by
    have ih := foldIns_len r (insS out y)
    have := insS_len out y
    rw [List.foldl_cons, List.length_cons]; omega
def allStep (kind a b : Int) (out : List ByteArray) (e : Ev) : List ByteArray := if a ≤ e.mi / 1440 ∧ e.mi / 1440 ≤ b then (e.names kind).foldl insS out else out
/-- the model's names of a kind from a day to a day -/
def allM (es : List Ev) (kind a b : Int) : List ByteArray := es.foldl (allStep kind a b) []
theorem allM_snoc (es : List Ev) (e : Ev) (kind a b : Int) : allM (es ++ [e]) kind a b = allStep kind a b (allM es kind a b) e := by simp [allM]
theorem allFold_facts (kind a b : Int) : ∀ (es : List Ev) (out : List ByteArray), SortedS out → SortedS (es.foldl (allStep kind a b) out) ∧
    ∀ x, x ∈ es.foldl (allStep kind a b) out ↔ (∃ e ∈ es, (a ≤ e.mi / 1440 ∧ e.mi / 1440 ≤ b) ∧ x ∈ e.names kind) ∨ x ∈ out
  | [], out, h => ⟨h, fun x => by simp⟩
  | e :: r, out, h => by
    have h1 : SortedS (allStep kind a b out e) ∧ ∀ x, x ∈ allStep kind a b out e ↔ ((a ≤ e.mi / 1440 ∧ e.mi / 1440 ≤ b) ∧ x ∈ e.names kind) ∨ x ∈ out := by
      unfold allStep
      split
      · rename_i hc
        have := foldIns_facts (e.names kind) out h
        exact ⟨this.1, fun x => by rw [this.2]; simp [hc]⟩
      · rename_i hc
        exact ⟨h, fun x => by simp [hc]⟩
    have ih := allFold_facts kind a b r _ h1.1
    refine ⟨ih.1, fun x => ?_⟩
    rw [List.foldl_cons, ih.2, h1.2]
    constructor
    · rintro (⟨f, hf, hx⟩ | hx | hx)
      · exact .inl ⟨f, List.mem_cons_of_mem _ hf, hx⟩
      · exact .inl ⟨e, List.mem_cons_self, hx⟩
      · exact .inr hx
    · rintro (⟨f, hf, hx⟩ | hx)
      · rcases List.mem_cons.1 hf with rfl | hf
        · exact .inr (.inl hx)
        · exact .inl ⟨f, hf, hx⟩
      · exact .inr (.inr hx)
theorem allM_sorted (es : List Ev) (kind a b : Int) : SortedS (allM es kind a b) := (allFold_facts kind a b es [] List.Pairwise.nil).1
theorem mem_allM {es : List Ev} {kind a b : Int} {x : ByteArray} : x ∈ allM es kind a b ↔ ∃ e ∈ es, (a ≤ e.mi / 1440 ∧ e.mi / 1440 ≤ b) ∧ x ∈ e.names kind := by
  have := (allFold_facts kind a b es [] List.Pairwise.nil).2 x
  unfold allM
  rw [this]; simp

/-- the model's line -/
def lineM (s : List UInt8) (c : Cnt) : List UInt8 := s ++ [32] ++ Lib.itoa c.1 ++ [32] ++ Lib.itoa c.2 ++ [10]
def namesM (es : List Ev) (d kind : Int) : List UInt8 := (allM es kind d d).flatMap fun n => lineM (kindWord kind ++ [32] ++ n.data.toList) (ofM es kind n d d)
def dayM (es : List Ev) (before d : Int) : List UInt8 := lineM (wDay ++ [32] ++ Lib.itoa d) (ofM es 0 ByteArray.empty d d) ++ (if before ≤ d then namesM es d 1 ++ namesM es d 2 ++ namesM es d 3 else [])
/-- the model's text -/
def textM (es : List Ev) (before : Int) : List UInt8 := (daysM es).flatMap (dayM es before) ++ linesZ (szM es) 18

/-! ### the keys in order are those of the model's text -/
def keysN (es : List Ev) (d kind : Int) : List Key := (allM es kind d d).map fun n => (d, kind, n)
def keysD (es : List Ev) (before d : Int) : List Key := (d, 0, ByteArray.empty) :: (if before ≤ d then keysN es d 1 ++ keysN es d 2 ++ keysN es d 3 else [])
def keysM (es : List Ev) (before : Int) : List Key := (daysM es).flatMap (keysD es before)
theorem cmpK_second {x y : Key} (h0 : x.1 = y.1) (h : x.2.1 < y.2.1) : cmpK x y < 0 := by
  unfold cmpK orL Lib.compareInt
  simp [h0, orL, h]
theorem cmpK_third {x y : Key} (h0 : x.1 = y.1) (h1 : x.2.1 = y.2.1) (h : cbK x.2.2 y.2.2 < 0) : cmpK x y < 0 := by
  unfold cbK at h
  unfold cmpK orL Lib.compareInt
  simp only [h0, h1, orL]
  simp
  split
  · rename_i hq; omega
  · exact h
theorem keysN_mem {es : List Ev} {d kind : Int} {x : Key} (h : x ∈ keysN es d kind) : x.1 = d ∧ x.2.1 = kind ∧ x.2.2 ∈ allM es kind d d := by
  obtain ⟨n, hn, rfl⟩ := List.mem_map.1 h
  exact ⟨rfl, rfl, hn⟩
theorem keysN_sorted (es : List Ev) (d kind : Int) : (keysN es d kind).Pairwise fun x y => cmpK x y < 0 := by
  unfold keysN
  rw [List.pairwise_map]
  exact List.Pairwise.imp (R := fun x y => cbK x y < 0) (fun {a b} h => cmpK_third (x := (d, kind, a)) (y := (d, kind, b)) rfl rfl h) (allM_sorted es kind d d)
theorem keysD_first {es : List Ev} {before d : Int} {x : Key} (h : x ∈ keysD es before d) : x.1 = d := by
  unfold keysD at h
  rcases List.mem_cons.1 h with rfl | h
  · rfl
  · split at h
    · simp only [List.mem_append] at h
      rcases h with (h | h) | h <;> exact (keysN_mem h).1
    · simp at h
theorem keysD_sorted (es : List Ev) (before d : Int) : (keysD es before d).Pairwise fun x y => cmpK x y < 0 := by
  unfold keysD
  refine List.pairwise_cons.2 ⟨fun x hx => ?_, ?_⟩
  · split at hx
    · simp only [List.mem_append] at hx
      rcases hx with (h | h) | h <;> (obtain ⟨h1, h2, _⟩ := keysN_mem h; exact cmpK_second h1.symm (by simp only [h2]; decide))
    · simp at hx
  · split
    · refine List.pairwise_append.2 ⟨List.pairwise_append.2 ⟨keysN_sorted _ _ _, keysN_sorted _ _ _, fun x hx y hy => ?_⟩, keysN_sorted _ _ _, fun x hx y hy => ?_⟩
      · obtain ⟨h1, h2, _⟩ := keysN_mem hx
        obtain ⟨h3, h4, _⟩ := keysN_mem hy
        exact cmpK_second (h1.trans h3.symm) (by rw [h2, h4]; decide)
      · obtain ⟨h3, h4, _⟩ := keysN_mem hy
        rcases List.mem_append.1 hx with hx | hx <;> (obtain ⟨h1, h2, _⟩ := keysN_mem hx; exact cmpK_second (h1.trans h3.symm) (by rw [h2, h4]; decide))
    · exact List.Pairwise.nil
theorem keysM_sorted (es : List Ev) (before : Int) : (keysM es before).Pairwise fun x y => cmpK x y < 0 := by
  unfold keysM
  have key : ∀ ds : List Int, ds.Pairwise (· < ·) → (ds.flatMap (keysD es before)).Pairwise fun x y => cmpK x y < 0 := by
    intro ds
    induction ds with
    | nil => intro _; exact List.Pairwise.nil
    | cons d r ih =>
      intro h
      obtain ⟨h1, h2⟩ := List.pairwise_cons.1 h
      rw [List.flatMap_cons]
      refine List.pairwise_append.2 ⟨keysD_sorted _ _ _, ih h2, fun x hx y hy => ?_⟩
      obtain ⟨d', hd', hy'⟩ := List.mem_flatMap.1 hy
      exact cmpK_first (by rw [keysD_first hx, keysD_first hy']; exact h1 d' hd')
  exact key _ (daysM_facts _ es rfl).1
theorem cmpK_irrefl (x : Key) : ¬ cmpK x x < 0 := fun h => by have := (totC_key.eq x x).2 rfl; omega
theorem sortK_self {l : List Key} (h : l.Pairwise fun x y => cmpK x y < 0) : sortK l = l := by
  refine List.Perm.eq_of_pairwise (le := fun x y => (!(ltOf cmpK) y x) = true) ?_ (sortK_pair l) ?_ (sortK_perm l)
  · intro x y _ _ h1 h2
    simp only [Bool.not_eq_true'] at h1 h2
    exact (totC_key.total _ _ h2 h1)
  · refine h.imp fun {x y} hxy => ?_
    have : ¬ cmpK y x < 0 := fun h' => by have := (totC_key.anti x y).1 hxy; omega
    simp [ltOf, this]
theorem nodup_sorted {l : List Key} (h : l.Pairwise fun x y => cmpK x y < 0) : l.Nodup := h.imp fun {x y} hxy he => by subst he; exact cmpK_irrefl _ hxy

/-- what Forget leaves -/
def keepB (before : Int) (k : Key) : Bool := !(k.2.1 != 0 && decide (k.1 < before))
def forgetL (before : Int) (L : List (Key × Cnt)) : List (Key × Cnt) := L.filter fun q => keepB before q.1
theorem keys_forget (before : Int) (L : List (Key × Cnt)) : (forgetL before L).map Prod.fst = (L.map Prod.fst).filter (keepB before) := by
  unfold forgetL; rw [List.filter_map]; rfl
theorem getL_forget (before : Int) (x : Key) (hx : keepB before x = true) : ∀ L : List (Key × Cnt), getL x (forgetL before L) = getL x L
  | [] => rfl
  | q :: r => by
    have ih := getL_forget before x hx r
    unfold forgetL at ih ⊢
    rw [List.filter_cons, getL_cons]
    by_cases hq : keyEq x q.1 = true
    · have e := (keyEq_iff _ _).1 hq
      rw [if_pos hq, if_pos (by rw [← e]; exact hx), getL_cons, if_pos hq]
    · rw [if_neg hq]
      split
      · rw [getL_cons, if_neg hq, ih]
      · exact ih
theorem mem_keysM {es : List Ev} {before : Int} {k : Key} : k ∈ keysM (okEvs es) before ↔ k ∈ (forgetL before (addsL [] es)).map Prod.fst := by
  rw [keys_forget, List.mem_filter, mem_keys_addsL]
  unfold keysM
  simp only [List.mem_flatMap, (daysM_facts _ (okEvs es) rfl).2, List.map_nil, List.not_mem_nil, or_false]
  constructor
  · rintro ⟨d, ⟨e0, he0, hd0⟩, hk⟩
    unfold keysD at hk
    rcases List.mem_cons.1 hk with rfl | hk
    · exact ⟨⟨e0, he0, mem_evkeys.2 (.inl (by rw [hd0]))⟩, by simp [keepB]⟩
    · split at hk
      · rename_i hb
        have key : ∀ kind : Int, k ∈ keysN (okEvs es) d kind → ∃ e ∈ okEvs es, e.mi / 1440 = d ∧ k = (d, kind, k.2.2) ∧ k.2.2 ∈ e.names kind := fun kind h => by
          obtain ⟨h1, h2, h3⟩ := keysN_mem h
          obtain ⟨e, he, hd, hn⟩ := mem_allM.1 h3
          exact ⟨e, he, by omega, by rw [← h1, ← h2], hn⟩
        have hkeep : k.1 = d → keepB before k = true := fun h => by
          have hnl : ¬ k.1 < before := by omega
          simp [keepB, hnl]
        simp only [List.mem_append] at hk
        rcases hk with (h | h) | h
        · obtain ⟨e, he, hd, hk2, hn⟩ := key 1 h
          exact ⟨⟨e, he, mem_evkeys.2 (.inr (.inl ⟨k.2.2, by simpa [Ev.names] using hn, by rw [hd]; exact hk2⟩))⟩, hkeep (by rw [hk2])⟩
        · obtain ⟨e, he, hd, hk2, hn⟩ := key 2 h
          exact ⟨⟨e, he, mem_evkeys.2 (.inr (.inr (.inl ⟨k.2.2, by simpa [Ev.names] using hn, by rw [hd]; exact hk2⟩)))⟩, hkeep (by rw [hk2])⟩
        · obtain ⟨e, he, hd, hk2, hn⟩ := key 3 h
          exact ⟨⟨e, he, mem_evkeys.2 (.inr (.inr (.inr (by
            have : k.2.2 = auText e.au := by simpa [Ev.names] using hn
            rw [hd, ← this]; exact hk2))))⟩, hkeep (by rw [hk2])⟩
      · simp at hk
  · rintro ⟨⟨e, he, hk⟩, hkeep⟩
    refine ⟨e.mi / 1440, ⟨e, he, rfl⟩, ?_⟩
    unfold keysD
    have hkb : k.2.1 ≠ 0 → before ≤ k.1 := fun h => by
      have h1 : (k.2.1 != 0) = true := by simpa using h
      unfold keepB at hkeep
      rw [h1] at hkeep
      simp at hkeep; exact hkeep
    have hin : ∀ kind : Int, ∀ g ∈ e.names kind, ((e.mi / 1440, kind, g) : Key) ∈ keysN (okEvs es) (e.mi / 1440) kind := fun kind g hg =>
      List.mem_map.2 ⟨g, mem_allM.2 ⟨e, he, ⟨Int.le_refl _, Int.le_refl _⟩, hg⟩, rfl⟩
    rcases mem_evkeys.1 hk with rfl | ⟨g, hg, rfl⟩ | ⟨g, hg, rfl⟩ | rfl
    · exact List.mem_cons_self
    · refine List.mem_cons_of_mem _ ?_
      rw [if_pos (hkb (by simp))]
      simp only [List.mem_append]
      exact .inl (.inl (hin 1 g (by simpa [Ev.names] using hg)))
    · refine List.mem_cons_of_mem _ ?_
      rw [if_pos (hkb (by simp))]
      simp only [List.mem_append]
      exact .inl (.inr (hin 2 g (by simpa [Ev.names] using hg)))
    · refine List.mem_cons_of_mem _ ?_
      rw [if_pos (hkb (by simp))]
      simp only [List.mem_append]
      exact .inr (hin 3 _ (by simp [Ev.names]))
theorem sort_forget (es : List Ev) (before : Int) : sortK ((forgetL before (addsL [] es)).map Prod.fst) = keysM (okEvs es) before := by
  have hn : ((forgetL before (addsL [] es)).map Prod.fst).Nodup := by rw [keys_forget]; exact (nodup_adds es).filter _
  have hp := perm_of_nodup hn (nodup_sorted (keysM_sorted (okEvs es) before)) (fun x => mem_keysM.symm)
  rw [sortK_of_perm hp, sortK_self (keysM_sorted _ _)]

/-! ### the counts -/
theorem get_name {es : List Ev} {d kind : Int} {n : ByteArray} (h1 : 1 ≤ kind) (h3 : kind ≤ 3) (hn : ¬ n.toList = []) : getL (d, kind, n) (addsL [] es) = ofM (okEvs es) kind n d d := by
  rw [getL_sum _ _ (nodup_adds es), ← sum_of es kind n d d h1 h3 hn]
  congr 1
  funext k
  unfold keyEq ofPred
  rw [Bool.eq_iff_iff]
  simp only [Bool.and_eq_true, beq_iff_eq, decide_eq_true_eq]
  constructor
  · rintro ⟨e1, e2, e3⟩; exact ⟨e2.symm, e3.symm, by omega, by omega⟩
  · rintro ⟨e1, e2, e3, e4⟩; exact ⟨by omega, e1.symm, e2.symm⟩
theorem get_day (es : List Ev) (d : Int) : getL (d, 0, ByteArray.empty) (addsL [] es) = ofM (okEvs es) 0 ByteArray.empty d d := by
  rw [getL_sum _ _ (nodup_adds es)]
  refine sum_adds _ _ (fun e he c => ?_) es []
  have h1 : (keysOf e.mi e.au e.gs e.ss).countP (fun k => keyEq (d, 0, ByteArray.empty) k) = if e.mi / 1440 = d then 1 else 0 := by
    have e0 : keysOf e.mi e.au e.gs e.ss = [(e.mi / 1440, 0, ByteArray.empty)] ++ (e.gs.map (fun g => (e.mi / 1440, 1, g)) ++ e.ss.map (fun s => (e.mi / 1440, 2, s)) ++ [(e.mi / 1440, 3, auText e.au)]) := by simp [keysOf]
    rw [e0, List.countP_append]
    have h2 : (e.gs.map (fun g => ((e.mi / 1440, 1, g) : Key)) ++ e.ss.map (fun s => (e.mi / 1440, 2, s)) ++ [(e.mi / 1440, 3, auText e.au)]).countP (fun k => keyEq (d, 0, ByteArray.empty) k) = 0 := by
      rw [List.countP_eq_zero]
      intro x hx hq
      have := (keyEq_iff _ _).1 hq
      subst this
      simp only [List.mem_append, List.mem_map, List.mem_singleton] at hx
      rcases hx with (⟨g, _, h⟩ | ⟨g, _, h⟩) | h <;> simp at h
    rw [h2]
    by_cases hd : e.mi / 1440 = d
    · have hq : keyEq (d, 0, ByteArray.empty) (e.mi / 1440, 0, ByteArray.empty) = true := (keyEq_iff _ _).2 (by rw [hd])
      rw [if_pos hd]; simp [hq]
    · have hq : ¬ keyEq (d, 0, ByteArray.empty) (e.mi / 1440, 0, ByteArray.empty) = true := fun h => hd (by have := (keyEq_iff _ _).1 h; exact (congrArg Prod.fst this).symm)
      rw [if_neg hd]; simp [hq]
  have h2 : e.hit 0 ByteArray.empty d d = decide (e.mi / 1440 = d) := by
    unfold Ev.hit
    have e0 : (ByteArray.empty.toList == ([] : List UInt8)) = true := by decide +kernel
    rw [e0, Bool.eq_iff_iff]
    simp
    omega
  rw [h1, ofStep, h2]
  by_cases hd : e.mi / 1440 = d <;> simp [hd]
theorem lineK_eq (k : Key) (c : Cnt) : lineK k c = lineM (kindWord k.2.1 ++ [32] ++ keyName k) c := by
  unfold lineK lineM
  simp [Lib.join, List.intercalate, List.intersperse]
theorem linesK_app (a b : List Key) (L : List (Key × Cnt)) : linesK (a ++ b) L = linesK a L ++ linesK b L := by simp [linesK]
theorem linesN_eq {es : List Ev} {before d kind : Int} (h1 : 1 ≤ kind) (h3 : kind ≤ 3) (hb : before ≤ d) (hne : ∀ n ∈ allM (okEvs es) kind d d, ¬ n.toList = []) :
    linesK (keysN (okEvs es) d kind) (forgetL before (addsL [] es)) = namesM (okEvs es) d kind := by
  unfold linesK keysN namesM
  rw [List.flatMap_map]
  have hcong : ∀ (l : List ByteArray), (∀ n ∈ l, ¬ n.toList = []) → l.flatMap (fun n => lineK (d, kind, n) (getL (d, kind, n) (forgetL before (addsL [] es)))) = l.flatMap (fun n => lineM (kindWord kind ++ [32] ++ n.data.toList) (ofM (okEvs es) kind n d d)) := by
    intro l
    induction l with
    | nil => intro _; rfl
    | cons n r ih =>
      intro h
      rw [List.flatMap_cons, List.flatMap_cons, ih (fun x hx => h x (List.mem_cons_of_mem _ hx)), lineK_eq, getL_forget before _ (by simp [keepB]; omega), get_name h1 h3 (h n List.mem_cons_self)]
      have hkn : keyName (d, kind, n) = n.data.toList := if_neg (by show ¬ kind = 0; omega)
      rw [hkn]
  exact hcong _ hne
/-- the names of accepted events are not empty -/
theorem names_ne {e : Ev} (he : e.err = 0) (hau : e.au.length = 16) {kind : Int} : ∀ n ∈ e.names kind, ¬ n.toList = [] := fun n hn h0 => by
  have hz : n = ByteArray.empty := bytes_beq_true (by rw [h0]; decide +kernel)
  obtain ⟨hg, hs⟩ := evErr_facts he
  unfold Ev.names at hn
  split at hn
  · have := (stFrom_facts _ _ hs).2.2 n hn
    rw [hz] at this
    exact absurd this (by unfold siteErr; simp)
  · split at hn
    · have e1 : n = auText e.au := by simpa using hn
      have h2 : (auText e.au).size = 32 := by rw [auText, mkS_size, hexL_length, hau]
      rw [← e1, hz] at h2
      exact absurd h2 (by decide)
    · have := (glFrom_facts _ _ hg).2.2 n hn
      rw [hz] at this
      exact absurd this (by decide +kernel)
theorem linesD_eq {es : List Ev} (hau : ∀ e ∈ es, e.au.length = 16) (before d : Int) : linesK (keysD (okEvs es) before d) (forgetL before (addsL [] es)) = dayM (okEvs es) before d := by
  have hne : ∀ kind : Int, ∀ n ∈ allM (okEvs es) kind d d, ¬ n.toList = [] := fun kind n hn => by
    obtain ⟨e, he, _, hn⟩ := mem_allM.1 hn
    have hm := List.mem_filter.1 he
    exact names_ne (by simpa using hm.2) (hau e hm.1) n hn
  unfold keysD dayM
  have e1 : linesK ((d, 0, ByteArray.empty) :: (if before ≤ d then keysN (okEvs es) d 1 ++ keysN (okEvs es) d 2 ++ keysN (okEvs es) d 3 else [])) (forgetL before (addsL [] es))
      = lineK (d, 0, ByteArray.empty) (getL (d, 0, ByteArray.empty) (forgetL before (addsL [] es))) ++ linesK (if before ≤ d then keysN (okEvs es) d 1 ++ keysN (okEvs es) d 2 ++ keysN (okEvs es) d 3 else []) (forgetL before (addsL [] es)) := by simp [linesK]
  rw [e1, lineK_eq, getL_forget before _ (by simp [keepB]), get_day]
  have hkn : keyName (d, 0, ByteArray.empty) = Lib.itoa d := rfl
  have hkw : kindWord (d, (0 : Int), ByteArray.empty).2.1 = wDay := rfl
  rw [hkn, hkw]
  congr 1
  split
  · rename_i hb
    rw [linesK_app, linesK_app, linesN_eq (by decide) (by decide) hb (hne 1), linesN_eq (by decide) (by decide) hb (hne 2), linesN_eq (by decide) (by decide) hb (hne 3)]
  · rfl
theorem text_model (es : List Ev) (hau : ∀ e ∈ es, e.au.length = 16) (before : Int) : textK (forgetL before (addsL [] es)) (addsZ noSizes es) = textM (okEvs es) before := by
  unfold textK textM
  rw [sort_forget, addsZ_szM]
  congr 1
  unfold keysM
  have key : ∀ ds : List Int, linesK (ds.flatMap (keysD (okEvs es) before)) (forgetL before (addsL [] es)) = ds.flatMap (dayM (okEvs es) before) := by
    intro ds
    induction ds with
    | nil => rfl
    | cons d r ih => rw [List.flatMap_cons, linesK_app, ih, linesD_eq hau, List.flatMap_cons]
  exact key _
theorem forget_none (es : List Ev) {before : Int} (h : before ≤ 0) : forgetL before (addsL [] es) = addsL [] es := by
  unfold forgetL
  rw [List.filter_eq_self]
  intro q hq
  have h1 : q.1 ∈ (addsL [] es).map Prod.fst := List.mem_map.2 ⟨q, hq, rfl⟩
  rcases mem_keys_addsL.1 h1 with ⟨e, he, hk⟩ | hx
  · have hm := List.mem_filter.1 he
    obtain ⟨⟨h2, h3⟩, _⟩ := Ev.ok (by simpa using hm.2 : e.err = 0)
    have hd : 0 ≤ q.1.1 := by
      have hd0 : 0 ≤ e.mi / 1440 := by omega
      rcases mem_evkeys.1 hk with h | ⟨g, _, h⟩ | ⟨g, _, h⟩ | h <;> (rw [h]; exact hd0)
    have hnl : ¬ q.1.1 < before := by omega
    simp [keepB, hnl]
  · simp at hx
end Go.Proofs.YtlemadbmlnjhpaaGreatDoor
