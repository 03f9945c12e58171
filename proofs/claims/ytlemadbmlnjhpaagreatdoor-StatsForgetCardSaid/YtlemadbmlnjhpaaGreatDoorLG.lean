/- maps.Equal, Stats.Equal: true where the maps hold the same. -/
import Derived.Test.YtlemadbmlnjhpaaGreatDoorLD
namespace Go.Proofs.YtlemadbmlnjhpaaGreatDoor
open Go Go.RowKit Go.Proofs
set_option linter.unusedSimpArgs false
set_option linter.unusedVariables false

theorem MapIs.len {w : World} {m : Nat} {L : List (Key × Cnt)} (h : MapIs w m L) (ty : TypeId) : (Builtin.len_ #[70] ty #[.map (some m)]).run Tryz.prog w = .ok (.int .i64 (L.length : Nat)) w := by
  obtain ⟨es, clock, h1, h2, _⟩ := h
  have hs : es.size = L.length := by
    have := congrArg List.length h2
    simpa using this
  simp [Builtin.len_, run_underlying Tryz.underlying70, MapKept.run_getObj_map h1, goInt, Result.andThen, hs]
theorem MapIs.lookupOk {w : World} {m : Nat} {L : List (Key × Cnt)} (h : MapIs w m L) (k : Key) {j : Nat} {c : Cnt} (hk : findL k L 0 = some (j, c)) :
    (Instr.lookup 70 (.map (some m)) (keyV k) true).run Tryz.prog w = .ok (.tuple #[cntV c, .bool true]) w := by
  obtain ⟨es, clock, h1, h2, _⟩ := h
  have hf := Tryz.run_findKey k w es.toList L h2
  have hc := Tryz.check_key es.isEmpty k w
  rw [hk] at hf
  simp [Instr.lookup, run_underlying Tryz.underlying70, MapKept.run_getObj_map h1, hc, hf, Result.andThen, Sem.run_pure]

theorem wpList_len_map {w : World} {ops : Array Oper} {rest : List Oper} {o : Oper} {a : Act} {Q : Exit → Act → World → Prop}
    (hg : o.guard = none) (x : Operand) (hop : o.op = Op.call { callee := Callee.builtin Builtin.len, args := #[x], argTypes := #[70] }) {m : Nat} {L : List (Key × Cnt)} (hm : a.eval x = .map (some m)) (h : MapIs w m L)
    (hK : wpList Tryz.prog ops Q rest (a.put o.dst (.int .i64 (L.length : Nat))) w) :
    wpList Tryz.prog ops Q (o :: rest) a w := by
  refine wpList_plain hg fun K' hK' => ?_
  unfold Oper.wp
  simp [execOp, hop, resolve, invoke, builtin, hm, h.len o.type, Result.andThen]
  exact hK' _ _ hK

/-- two maps that hold the same -/
def SameL (L M : List (Key × Cnt)) : Prop := L.length = M.length ∧ ∀ q ∈ L, ∃ j, findL q.1 M 0 = some (j, q.2)
set_option maxRecDepth 100000 in
set_option maxHeartbeats 3200000 in
theorem mapsEqual_any (m n : Nat) (L M : List (Key × Cnt)) (w : World) (hm : MapIs w m L) (hn : MapIs w n M) (hl : L.length ≤ 1000000) (hs : SameL L M) :
    Calls Tryz.prog 45 #[.map (some m), .map (some n)] w fun e w' => e = .returned (.bool true) ∧ Below w.heap.size w w' := by
  obtain ⟨hlen, hs⟩ := hs
  have hll : ((L.length : Nat) : Int) = (M.length : Nat) := by rw [hlen]
  have hll' := Lib.hid hll
  have hn' := Lib.hid hn
  have hs' := Lib.hid hs
  have hm' := Lib.hid hm
  have hq : (((L.length : Nat) : Int) != ((M.length : Nat) : Int)) = false := by rw [hll]; simp
  clear hll hn hs hm hlen
  go_enter Tryz.func45, Tryz.ntmps45
  go_wp2_with (first
    | (refine wpList_len_map rfl (.tmp 9) rfl rfl hm'.out ?_)
    | (refine wpList_len_map rfl (.tmp 11) rfl rfl hn'.out ?_)
    | (at_range; refine wpList_range_map rfl _ rfl rfl hm'.out ?_; intro ob hrg; have hrg' := Lib.hid hrg; clear hrg))
  go_frame
  go_loopg [] L.length (fun c wr => ∃ todo : List (Key × Cnt), c = todo.length ∧ (∀ q ∈ todo, q ∈ L) ∧ Ranging wr m w.heap.size L todo ∧ Below w.heap.size w wr)
  case atStart => exact ⟨L, rfl, fun q h => h, hrg'.out, (Below.refl _ _).alloc (Nat.le_refl _) _⟩
  case round =>
    obtain ⟨todo, rfl, hsub, hrg, hbel⟩ := hrel
    have hsub' := Lib.hid hsub
    have hbel' := Lib.hid hbel
    clear hsub hbel
    go_wp2_with (at_next; refine wpList_next_map rfl _ rfl rfl hrg ?_ ?_)
    · intro h0
      subst h0
      go_wp2_with fail
      go_ret
      exact ⟨rfl, hbel'.out⟩
    · intro k1 k2 k3 c1 c2 todo' w1 hperm hrg1 hg1 hsz1 hen
      have hmem : ((k1, k2, k3), (c1, c2)) ∈ L := hsub'.out _ (hperm.mem_iff.2 (by simp))
      obtain ⟨j, hj⟩ := hs'.out _ hmem
      have hbel1 : Below w.heap.size w w1 := hbel'.out.grown hg1 hbel'.out.size (fun j hj => by cases hj; exact Nat.le_refl _)
      obtain ⟨W, hW⟩ : ∃ W, W = (w1.alloc (.cells #[.int .i64 k1, .int .i64 k2, .string k3] 64)).alloc (.cells #[.int .i64 c1, .int .i64 c2] 34) := ⟨_, rfl⟩
      have hbW : Below w1.heap.size w1 W := by rw [hW]; exact ((Below.refl _ _).alloc (Nat.le_refl _) _).alloc (by simp) _
      have hlk := (hn'.out.below (hbel1.trans (hbW.mono hbel1.size)) hn'.out.lt).lookupOk (k1, k2, k3) hj
      have hlk' : (Instr.lookup 70 (.map (some n)) (.agg #[.int .i64 k1, .int .i64 k2, .string k3]) true).run Tryz.prog W = .ok (.tuple #[.agg #[.int .i64 c1, .int .i64 c2], .bool true]) W := hlk
      rw [hW] at hlk'
      have hrgW : Ranging W m w.heap.size L todo' := hrg1.block (hbW.block _ hrg1.lt.1) (hbW.block _ hrg1.lt.2.1)
      have hbelW := Lib.hid (hbel1.trans (hbW.mono hbel1.size))
      have hrgW' := Lib.hid hrgW
      have hW' := Lib.hid hW
      have hperm' := Lib.hid hperm
      have hec := Tryz.equal_cnt c1 c2
      clear hlk hrgW hbW hW hmem hj hperm hrg1 hg1 hsz1 hrg hbel1
      go_wp2_with fail
      go_roundg todo'.length
      case measure => have := hperm'.out.length_eq; simp at this; omega
      case rel =>
        rw [← hW'.out]
        refine ⟨todo', rfl, fun q hq => hsub'.out q (hperm'.out.mem_iff.2 (by simp [hq])), ?_, hbelW.out.alloc hbelW.out.size _⟩
        exact hrgW'.out.block (Below.heap_alloc _ _ _ hrgW'.out.lt.1) (Below.heap_alloc _ _ _ hrgW'.out.lt.2.1)
theorem StatsAt.range {w : World} {sb m : Nat} {L : List (Key × Cnt)} {zs : List Int} (h : StatsAt w sb m L zs) : w.rangeAt sb 1 (zs.map (Value.int .i64)) := fun j v hj => by
  rw [cell_of_row _ _ _ _ _ _ h.1]
  have : (Value.map (some m) :: zs.map (Value.int .i64))[1 + j]? = (zs.map (Value.int .i64))[j]? := by rw [Nat.add_comm]; rfl
  rw [List.getElem?_toArray, this]; exact hj
theorem keepE {w W' : World} {sb ob m n : Nat} {L M : List (Key × Cnt)} {zs : List Int} {cs : List Value} (h1 : StatsAt w sb m L zs) (h2 : StatsAt w ob n M zs) (hcs : cs = zs.map (Value.int .i64)) (hb : Below w.heap.size w W') :
    Below w.heap.size w W' ∧ W'.rangeAt sb 1 cs ∧ W'.rangeAt ob 1 cs ∧ W'.cell? ⟨sb, 0, none⟩ = some (.map (some m)) ∧ W'.cell? ⟨ob, 0, none⟩ = some (.map (some n)) := by
  have a := h1.below hb
  have b := h2.below hb
  subst hcs
  exact ⟨hb, a.range, b.range, a.cell0, b.cell0⟩
set_option maxRecDepth 100000 in
set_option maxHeartbeats 3200000 in
theorem equal_any (sb ob m n : Nat) (L M : List (Key × Cnt)) (zs : List Int) (w : World) (h1 : StatsAt w sb m L zs) (h2 : StatsAt w ob n M zs) (hl : L.length ≤ 1000000) (hs : SameL L M) :
    Calls Tryz.prog 22 #[.pointer (some ⟨sb, 0, none⟩), .pointer (some ⟨ob, 0, none⟩)] w fun e w' => e = .returned (.bool true) ∧ Below w.heap.size w w' := by
  obtain ⟨cs, hcs⟩ : ∃ cs, cs = zs.map (Value.int .i64) := ⟨_, rfl⟩
  have heq := Tryz.equal_arr zs h1.2.1
  rw [← hcs] at heq
  have hlen : cs.length = 18 := by rw [hcs, List.length_map]; exact h1.2.1
  have hi : (Tryz.prog.info? 41).map (·.size) = some cs.length := by rw [hlen]; exact Tryz.sizeArr
  have hu := Tryz.underlying41
  have h1' := Lib.hid h1
  have h2' := Lib.hid h2
  have hs' := Lib.hid hs
  have hcs' := Lib.hid hcs
  clear h1 h2 hs hcs
  go_enter Tryz.func22, Tryz.ntmps22
  go_wp2_with fail
  -- by hand
  refine wp_region_noPanic ?_
  have hH := keepE h1'.out h2'.out hcs'.out (Below.refl w.heap.size w).drew
  refine wp_region_held_drew (S := fun W' => Below w.heap.size w W' ∧ W'.rangeAt sb 1 cs ∧ W'.rangeAt ob 1 cs ∧ W'.cell? ⟨sb, 0, none⟩ = some (.map (some m)) ∧ W'.cell? ⟨ob, 0, none⟩ = some (.map (some n))) (by kernel_rfl) hH (fun _ => ?_)
  refine wpAnyH_take (i := 0) (oi := { dst := some 17, op := Op.move (Operand.tmp 0), type := 30, pos := "stats.go:438", after := #[], guard := none }) (v := (.pointer (some ⟨sb, 0, none⟩))) rfl (by kernel_rfl) (by kernel_rfl) (by kernel_rfl) (fun _ _ _ h => h) (Or.inl ⟨by rfl, fun w hSw => by obtain ⟨hSb, hSr1, hSr2, hSc1, hSc2⟩ := hSw; clear hSb hSr1 hSr2; go_simp⟩) hH ?_
  try simp only [Act.put, List.setIfInBounds_toArray, List.set_cons_zero, List.set_cons_succ]
  refine wpAnyH_take (i := 1) (oi := { dst := some 18, op := Op.nilCheck (Operand.tmp 17), type := 0, pos := "stats.go:438", after := #[{ on := 0, ground := Ground.data }], guard := none }) (v := (.pointer (some ⟨sb, 0, none⟩))) rfl (by kernel_rfl) (by kernel_rfl) (by kernel_rfl) (fun _ _ _ h => h) (Or.inl ⟨by rfl, fun w hSw => by obtain ⟨hSb, hSr1, hSr2, hSc1, hSc2⟩ := hSw; clear hSb hSr1 hSr2; go_simp⟩) hH ?_
  try simp only [Act.put, List.setIfInBounds_toArray, List.set_cons_zero, List.set_cons_succ]
  refine wpAnyH_take (i := 2) (oi := { dst := some 19, op := Op.fieldAddr 72 (Operand.tmp 18) 1, type := 0, pos := "stats.go:438", after := #[{ on := 1, ground := Ground.data }], guard := none }) (v := (.pointer (some ⟨sb, 1, none⟩))) rfl (by kernel_rfl) (by kernel_rfl) (by kernel_rfl) (fun _ _ _ h => h) (Or.inl ⟨by rfl, fun w hSw => by obtain ⟨hSb, hSr1, hSr2, hSc1, hSc2⟩ := hSw; clear hSb hSr1 hSr2; go_simp⟩) hH ?_
  try simp only [Act.put, List.setIfInBounds_toArray, List.set_cons_zero, List.set_cons_succ]
  refine wpAnyH_take (i := 3) (oi := { dst := some 20, op := Op.load 41 (Operand.tmp 19), type := 41, pos := "stats.go:438", after := #[{ on := 2, ground := Ground.data }], guard := none }) (v := (.agg cs.toArray)) rfl (by kernel_rfl) (by kernel_rfl) (by kernel_rfl) (fun _ _ _ h => h) (yieldsIf_load_mid (by rfl) _ _ rfl sb 1 rfl cs _ (fun W' hW => hW.2.1) hu rfl hi) hH ?_
  try simp only [Act.put, List.setIfInBounds_toArray, List.set_cons_zero, List.set_cons_succ]
  refine wpAnyH_take (i := 4) (oi := { dst := some 21, op := Op.move (Operand.tmp 1), type := 30, pos := "stats.go:438", after := #[], guard := none }) (v := (.pointer (some ⟨ob, 0, none⟩))) rfl (by kernel_rfl) (by kernel_rfl) (by kernel_rfl) (fun _ _ _ h => h) (Or.inl ⟨by rfl, fun w hSw => by obtain ⟨hSb, hSr1, hSr2, hSc1, hSc2⟩ := hSw; clear hSb hSr1 hSr2; go_simp⟩) hH ?_
  try simp only [Act.put, List.setIfInBounds_toArray, List.set_cons_zero, List.set_cons_succ]
  refine wpAnyH_take (i := 5) (oi := { dst := some 22, op := Op.nilCheck (Operand.tmp 21), type := 0, pos := "stats.go:438", after := #[{ on := 4, ground := Ground.data }], guard := none }) (v := (.pointer (some ⟨ob, 0, none⟩))) rfl (by kernel_rfl) (by kernel_rfl) (by kernel_rfl) (fun _ _ _ h => h) (Or.inl ⟨by rfl, fun w hSw => by obtain ⟨hSb, hSr1, hSr2, hSc1, hSc2⟩ := hSw; clear hSb hSr1 hSr2; go_simp⟩) hH ?_
  try simp only [Act.put, List.setIfInBounds_toArray, List.set_cons_zero, List.set_cons_succ]
  refine wpAnyH_take (i := 6) (oi := { dst := some 23, op := Op.fieldAddr 72 (Operand.tmp 22) 1, type := 0, pos := "stats.go:438", after := #[{ on := 5, ground := Ground.data }], guard := none }) (v := (.pointer (some ⟨ob, 1, none⟩))) rfl (by kernel_rfl) (by kernel_rfl) (by kernel_rfl) (fun _ _ _ h => h) (Or.inl ⟨by rfl, fun w hSw => by obtain ⟨hSb, hSr1, hSr2, hSc1, hSc2⟩ := hSw; clear hSb hSr1 hSr2; go_simp⟩) hH ?_
  try simp only [Act.put, List.setIfInBounds_toArray, List.set_cons_zero, List.set_cons_succ]
  refine wpAnyH_take (i := 7) (oi := { dst := some 24, op := Op.load 41 (Operand.tmp 23), type := 41, pos := "stats.go:438", after := #[{ on := 6, ground := Ground.data }], guard := none }) (v := (.agg cs.toArray)) rfl (by kernel_rfl) (by kernel_rfl) (by kernel_rfl) (fun _ _ _ h => h) (yieldsIf_load_mid (by rfl) _ _ rfl ob 1 rfl cs _ (fun W' hW => hW.2.2.1) hu rfl hi) hH ?_
  try simp only [Act.put, List.setIfInBounds_toArray, List.set_cons_zero, List.set_cons_succ]
  refine wpAnyH_take (i := 8) (oi := { dst := some 25, op := Op.binOp BinOp.eql 41 (Operand.tmp 20) (Operand.tmp 24) 41, type := 4, pos := "stats.go:438", after := #[{ on := 3, ground := Ground.data }, { on := 7, ground := Ground.data }], guard := none }) (v := (.bool true)) rfl (by kernel_rfl) (by kernel_rfl) (by kernel_rfl) (fun _ _ _ h => h) (Or.inl ⟨by rfl, fun w hSw => by obtain ⟨hSb, hSr1, hSr2, hSc1, hSc2⟩ := hSw; clear hSb hSr1 hSr2; go_simp⟩) hH ?_
  try simp only [Act.put, List.setIfInBounds_toArray, List.set_cons_zero, List.set_cons_succ]
  refine wpAnyH_take (i := 9) (oi := { dst := some 26, op := Op.move (Operand.tmp 25), type := 4, pos := "stats.go:438", after := #[{ on := 8, ground := Ground.data }], guard := none }) (v := (.bool true)) rfl (by kernel_rfl) (by kernel_rfl) (by kernel_rfl) (fun _ _ _ h => h) (Or.inl ⟨by rfl, fun w hSw => by obtain ⟨hSb, hSr1, hSr2, hSc1, hSc2⟩ := hSw; clear hSb hSr1 hSr2; go_simp⟩) hH ?_
  try simp only [Act.put, List.setIfInBounds_toArray, List.set_cons_zero, List.set_cons_succ]
  refine wpAnyH_take (i := 10) (oi := { dst := some 27, op := Op.move (Operand.tmp 0), type := 30, pos := "stats.go:438", after := #[{ on := 9, ground := Ground.guard }], guard := some (9, true) }) (v := (.pointer (some ⟨sb, 0, none⟩))) rfl (by kernel_rfl) (by kernel_rfl) (by kernel_rfl) (fun _ _ _ h => h) (Or.inl ⟨by rfl, fun w hSw => by obtain ⟨hSb, hSr1, hSr2, hSc1, hSc2⟩ := hSw; clear hSb hSr1 hSr2; go_simp⟩) hH ?_
  try simp only [Act.put, List.setIfInBounds_toArray, List.set_cons_zero, List.set_cons_succ]
  refine wpAnyH_take (i := 11) (oi := { dst := some 28, op := Op.nilCheck (Operand.tmp 27), type := 0, pos := "stats.go:438", after := #[{ on := 10, ground := Ground.data }, { on := 9, ground := Ground.guard }], guard := some (9, true) }) (v := (.pointer (some ⟨sb, 0, none⟩))) rfl (by kernel_rfl) (by kernel_rfl) (by kernel_rfl) (fun _ _ _ h => h) (Or.inl ⟨by rfl, fun w hSw => by obtain ⟨hSb, hSr1, hSr2, hSc1, hSc2⟩ := hSw; clear hSb hSr1 hSr2; go_simp⟩) hH ?_
  try simp only [Act.put, List.setIfInBounds_toArray, List.set_cons_zero, List.set_cons_succ]
  refine wpAnyH_take (i := 12) (oi := { dst := some 29, op := Op.fieldAddr 72 (Operand.tmp 28) 0, type := 0, pos := "stats.go:438", after := #[{ on := 11, ground := Ground.data }, { on := 9, ground := Ground.guard }], guard := some (9, true) }) (v := (.pointer (some ⟨sb, 0, none⟩))) rfl (by kernel_rfl) (by kernel_rfl) (by kernel_rfl) (fun _ _ _ h => h) (Or.inl ⟨by rfl, fun w hSw => by obtain ⟨hSb, hSr1, hSr2, hSc1, hSc2⟩ := hSw; clear hSb hSr1 hSr2; go_simp⟩) hH ?_
  try simp only [Act.put, List.setIfInBounds_toArray, List.set_cons_zero, List.set_cons_succ]
  refine wpAnyH_take (i := 13) (oi := { dst := some 30, op := Op.load 70 (Operand.tmp 29), type := 70, pos := "stats.go:438", after := #[{ on := 12, ground := Ground.data }, { on := 9, ground := Ground.guard }], guard := some (9, true) }) (v := (.map (some m))) rfl (by kernel_rfl) (by kernel_rfl) (by kernel_rfl) (fun _ _ _ h => h) (Or.inl ⟨by rfl, fun w hSw => by obtain ⟨hSb, hSr1, hSr2, hSc1, hSc2⟩ := hSw; clear hSb hSr1 hSr2; go_simp⟩) hH ?_
  try simp only [Act.put, List.setIfInBounds_toArray, List.set_cons_zero, List.set_cons_succ]
  refine wpAnyH_take (i := 14) (oi := { dst := some 31, op := Op.move (Operand.tmp 1), type := 30, pos := "stats.go:438", after := #[{ on := 9, ground := Ground.guard }], guard := some (9, true) }) (v := (.pointer (some ⟨ob, 0, none⟩))) rfl (by kernel_rfl) (by kernel_rfl) (by kernel_rfl) (fun _ _ _ h => h) (Or.inl ⟨by rfl, fun w hSw => by obtain ⟨hSb, hSr1, hSr2, hSc1, hSc2⟩ := hSw; clear hSb hSr1 hSr2; go_simp⟩) hH ?_
  try simp only [Act.put, List.setIfInBounds_toArray, List.set_cons_zero, List.set_cons_succ]
  refine wpAnyH_take (i := 15) (oi := { dst := some 32, op := Op.nilCheck (Operand.tmp 31), type := 0, pos := "stats.go:438", after := #[{ on := 14, ground := Ground.data }, { on := 9, ground := Ground.guard }], guard := some (9, true) }) (v := (.pointer (some ⟨ob, 0, none⟩))) rfl (by kernel_rfl) (by kernel_rfl) (by kernel_rfl) (fun _ _ _ h => h) (Or.inl ⟨by rfl, fun w hSw => by obtain ⟨hSb, hSr1, hSr2, hSc1, hSc2⟩ := hSw; clear hSb hSr1 hSr2; go_simp⟩) hH ?_
  try simp only [Act.put, List.setIfInBounds_toArray, List.set_cons_zero, List.set_cons_succ]
  refine wpAnyH_take (i := 16) (oi := { dst := some 33, op := Op.fieldAddr 72 (Operand.tmp 32) 0, type := 0, pos := "stats.go:438", after := #[{ on := 15, ground := Ground.data }, { on := 9, ground := Ground.guard }], guard := some (9, true) }) (v := (.pointer (some ⟨ob, 0, none⟩))) rfl (by kernel_rfl) (by kernel_rfl) (by kernel_rfl) (fun _ _ _ h => h) (Or.inl ⟨by rfl, fun w hSw => by obtain ⟨hSb, hSr1, hSr2, hSc1, hSc2⟩ := hSw; clear hSb hSr1 hSr2; go_simp⟩) hH ?_
  try simp only [Act.put, List.setIfInBounds_toArray, List.set_cons_zero, List.set_cons_succ]
  refine wpAnyH_take (i := 17) (oi := { dst := some 34, op := Op.load 70 (Operand.tmp 33), type := 70, pos := "stats.go:438", after := #[{ on := 16, ground := Ground.data }, { on := 9, ground := Ground.guard }], guard := some (9, true) }) (v := (.map (some n))) rfl (by kernel_rfl) (by kernel_rfl) (by kernel_rfl) (fun _ _ _ h => h) (Or.inl ⟨by rfl, fun w hSw => by obtain ⟨hSb, hSr1, hSr2, hSc1, hSc2⟩ := hSw; clear hSb hSr1 hSr2; go_simp⟩) hH ?_
  try simp only [Act.put, List.setIfInBounds_toArray, List.set_cons_zero, List.set_cons_succ]
  refine wpAnyH_ready (rs := [18]) (by kernel_rfl) (by simp) ?_
  refine AllReadyH.cons (o := { dst := some 35, op := Op.call { callee := Callee.value (Operand.func 45), args := #[Operand.tmp 30, Operand.tmp 34], argTypes := #[70, 70] }, type := 4, pos := "stats.go:438", after := #[{ on := 13, ground := Ground.data }, { on := 17, ground := Ground.data }, { on := 9, ground := Ground.chain }, { on := 9, ground := Ground.guard }], guard := some (9, true) }) rfl (fun K hK => ?_) AllReadyH.nil
  go_simp
  go_at_call 45
  refine (mapsEqual_any m n L M _ (h1'.out.below (Below.refl w.heap.size w).drew).2.2 (h2'.out.below (Below.refl w.heap.size w).drew).2.2 hl hs'.out).mono ?_
  rintro e w5 ⟨rfl, hbE0⟩
  have hbE : Below w.heap.size w w5 := (Below.refl w.heap.size w).drew.trans hbE0
  have hH5 := keepE h1'.out h2'.out hcs'.out hbE
  refine hK.out _ _ hH5 (fun _ => ?_)
  clear hK hbE0
  try simp only [Act.put, List.setIfInBounds_toArray, List.set_cons_zero, List.set_cons_succ]
  refine wpAnyH_take (i := 19) (oi := { dst := some 36, op := Op.pick (Operand.tmp 26) (Operand.tmp 35) (Operand.const (Value.bool false)), type := 4, pos := "stats.go:438", after := #[{ on := 9, ground := Ground.data }, { on := 18, ground := Ground.data }], guard := none }) (v := (.bool true)) rfl (by kernel_rfl) (by kernel_rfl) (by kernel_rfl) (fun _ _ _ h => h) (Or.inl ⟨by rfl, fun w hSw => by obtain ⟨hSb, hSr1, hSr2, hSc1, hSc2⟩ := hSw; clear hSb hSr1 hSr2; go_simp⟩) hH5 ?_
  try simp only [Act.put, List.setIfInBounds_toArray, List.set_cons_zero, List.set_cons_succ]
  refine wpAnyH_take (i := 20) (oi := { dst := some 4, op := Op.assign (Operand.tmp 36), type := 4, pos := "stats.go:438", after := #[{ on := 19, ground := Ground.data }, { on := 18, ground := Ground.chain }, { on := 0, ground := Ground.phase }, { on := 1, ground := Ground.phase }, { on := 2, ground := Ground.phase }, { on := 3, ground := Ground.phase }, { on := 4, ground := Ground.phase }, { on := 5, ground := Ground.phase }, { on := 6, ground := Ground.phase }, { on := 7, ground := Ground.phase }, { on := 8, ground := Ground.phase }, { on := 9, ground := Ground.phase }, { on := 10, ground := Ground.phase }, { on := 11, ground := Ground.phase }, { on := 12, ground := Ground.phase }, { on := 13, ground := Ground.phase }, { on := 14, ground := Ground.phase }, { on := 15, ground := Ground.phase }, { on := 16, ground := Ground.phase }, { on := 17, ground := Ground.phase }, { on := 18, ground := Ground.phase }, { on := 19, ground := Ground.phase }], guard := none }) (v := (.bool true)) rfl (by kernel_rfl) (by kernel_rfl) (by kernel_rfl) (fun _ _ _ h => h) (Or.inl ⟨by rfl, fun w hSw => by obtain ⟨hSb, hSr1, hSr2, hSc1, hSc2⟩ := hSw; clear hSb hSr1 hSr2; go_simp⟩) hH5 ?_
  try simp only [Act.put, List.setIfInBounds_toArray, List.set_cons_zero, List.set_cons_succ]
  refine wpAnyH_done (by kernel_rfl) ?_ _
  refine NoPanic.normal ?_
  -- back
  go_wp2_with fail
  go_ret
  exact ⟨rfl, hbE⟩
end Go.Proofs.YtlemadbmlnjhpaaGreatDoor
