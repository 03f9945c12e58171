/- maps.Keys over the map of counts: its iterator, for every loop body that keeps its word. -/
/- slices.AppendSeq, slices.Collect at keys, against whatever iterator value. -/
import Derived.Test.YtlemadbmlnjhpaaGreatDoorG8
import Derived.RangeFuncGives
import Derived.Sort.MapsRangeIn
import Derived.WalkKit
import Derived.OwnWalkIn
import Derived.TacticsInMore
import Derived.RegionIn
import Derived.LoopNIn
import Derived.LoopIn
import Derived.Shelf.SlIter.Collect
import Derived.Deep.MidRow
namespace Go.Proofs.YtlemadbmlnjhpaaGreatDoor
open Go Go.RowKit Go.Proofs
set_option linter.unusedSimpArgs false
set_option linter.unusedVariables false

theorem Ranging.left_eq {w : World} {m r : Nat} {L todo : List (Key × Cnt)} (h : Ranging w m r L todo) : w.rangeLeft m r = todo.length := by
  obtain ⟨es, clock, since, c0, seen, h1, h2, h3, h4, h5, h6, h7, h8, h9⟩ := h
  simp only [World.rangeLeft, h2, h1]
  have := congrArg List.length h9
  simpa using this
theorem Ranging.of_walks {w w' : World} {m r : Nat} {L todo : List (Key × Cnt)} (h : Ranging w m r L todo) (hk : KeepsWalks w w') : Ranging w' m r L todo := by
  obtain ⟨es, clock, since, c0, seen, h1, h2, rest⟩ := h
  exact ⟨es, clock, since, c0, seen, hk.same r _ h1 rfl, hk.same m _ h2 rfl, rest⟩
theorem Ranging.iter_walk {w : World} {m r : Nat} {L todo : List (Key × Cnt)} (h : Ranging w m r L todo) : ∃ o : Obj, w.heap[r]? = some o ∧ o.isWalk = true := by
  obtain ⟨es, clock, since, c0, seen, h1, _⟩ := h
  exact ⟨_, h1, rfl⟩
theorem grownBy_alloc (w : World) (o : Obj) : w.grownBy (w.alloc o) none :=
  ⟨rfl, rfl, rfl, by simp, fun k hk _ => Below.heap_alloc w o k hk⟩

theorem wpListIn_range_map {F : Fence} {n : Nat} {w : World} {ops : Array Oper} {rest : List Oper} {o : Oper} {a : Act} {Q : Exit → Act → World → Prop}
    (hg : o.guard = none) (x : Operand) (hop : o.op = Op.range 70 x) {m : Nat} {L : List (Key × Cnt)} (hm : a.eval x = .map (some m)) (h : MapIs w m L)
    (hK : ∀ ob, Ranging (w.alloc ob) m w.heap.size L L → wpListIn F n Tryz.prog ops Q rest (a.put o.dst (.pointer (some ⟨w.heap.size, 0, none⟩))) (w.alloc ob)) :
    wpListIn F n Tryz.prog ops Q (o :: rest) a w := by
  refine wpListIn_plain hg fun K' hK' => ?_
  obtain ⟨ob, hrun, hr⟩ := h.range
  unfold Oper.wpIn
  refine ⟨by simp [Oper.about, hop], ?_⟩
  rw [Oper.semAt_plain F _ _ (by rw [hop]; intro c hc'; cases hc')]
  simp [execOp, hop, hm, hrun, Result.andThen]
  exact hK' _ _ (hK ob hr)

theorem wpListIn_next_map {F : Fence} {n : Nat} {w : World} {ops : Array Oper} {rest : List Oper} {o : Oper} {a : Act} {Q : Exit → Act → World → Prop}
    (hg : o.guard = none) (it : Operand) (hop : o.op = Op.next it false) {m r : Nat} {L todo : List (Key × Cnt)} (hit : a.eval it = .pointer (some ⟨r, 0, none⟩)) (h : Ranging w m r L todo)
    (hDone : todo = [] → wpListIn F n Tryz.prog ops Q rest (a.put o.dst (.tuple #[.bool false])) w)
    (hMore : ∀ (k1 k2 : Int) (k3 : ByteArray) (c1 c2 : Int) (todo' : List (Key × Cnt)) (w1 : World), todo.Perm (((k1, k2, k3), (c1, c2)) :: todo') → Ranging w1 m r L todo' → w.grownBy w1 (some r) → w1.heap.size = w.heap.size →
      (Instr.entry (.pointer (some ⟨r, 0, none⟩))).run Tryz.prog w1 = .ok (.tuple #[.agg #[.int .i64 k1, .int .i64 k2, .string k3], .agg #[.int .i64 c1, .int .i64 c2]]) w1 →
      wpListIn F n Tryz.prog ops Q rest (a.put o.dst (.tuple #[.bool true, .agg #[.int .i64 k1, .int .i64 k2, .string k3], .agg #[.int .i64 c1, .int .i64 c2]])) w1) :
    wpListIn F n Tryz.prog ops Q (o :: rest) a w := by
  refine wpListIn_plain hg fun K' hK' => ?_
  unfold Oper.wpIn
  refine ⟨by simp [Oper.about, hop], ?_⟩
  rw [Oper.semAt_plain F _ _ (by rw [hop]; intro c hc'; cases hc')]
  rcases h.next o.type with ⟨h0, hrun⟩ | ⟨⟨⟨k1, k2, k3⟩, ⟨c1, c2⟩⟩, todo', w1, hp, hrun, hr, hgr, hsz, hen⟩
  · simp [execOp, hop, hit, hrun, Result.andThen]
    exact hK' _ _ (hDone h0)
  · simp [execOp, hop, hit, hrun, Result.andThen]
    exact hK' _ _ (hMore k1 k2 k3 c1 c2 todo' w1 hp hr hgr hsz hen)

set_option maxRecDepth 100000 in
set_option maxHeartbeats 1000000 in
theorem keys1_in (F : Fence) (n : Nat) (h10 : F.fn 84) (hro : F.round = none) (hn : 1 ≤ n) (l Bm m : Nat) (L : List (Key × Cnt)) (J : List Key → World → Prop)
    (hY : ∀ pre x W, J pre W → pre.length < L.length → YieldAt F (n - 1) Tryz.prog l #[keyV x] W fun e W' => e = .returned (.bool true) ∧ J (pre ++ [x]) W' ∧ KeepsWalks W W')
    (W : World) (hJ : AbidesFrom W.heap.size J) (hm : W.cell? ⟨Bm, 0, none⟩ = some (.map (some m))) (hown : MapIs W m L) (h0 : J [] W) :
    CallsIn F n Tryz.prog 84 #[.func (.yield l) #[] #[], .pointer (some ⟨Bm, 0, none⟩)] W fun e W' => (∃ v, e = .returned v) ∧ ∃ ks : List Key, ks.Perm (L.map Prod.fst) ∧ J ks W' := by
  refine callsIn_of_wp Tryz.func84 rfl h10 ?_ hro
  simp only [Tryz.ntmps84, List.size_toArray, List.length_cons, List.length_nil, Nat.reduceAdd, Nat.reduceSub, Array.replicate_succ, Array.replicate_zero, List.push_toArray, List.append_toArray, List.nil_append, List.cons_append]
  gi_wp2_with (first
    | (gi_at_range; refine wpListIn_range_map rfl _ rfl rfl hown ?_; intro ob hrg0)
    | gi_in)
  go_frame
  gi_loopw [3] (fun _ wr => ∃ (todo : List (Key × Cnt)) (ks : List Key), Ranging wr m W.heap.size L todo ∧ ks.length + todo.length = L.length ∧ (ks ++ todo.map Prod.fst).Perm (L.map Prod.fst) ∧ J ks wr)
    (fun _ wr => wr.rangeLeft m W.heap.size)
  case atStart =>
    exact ⟨L, [], hrg0, by simp, by simp, hJ [] W _ none h0 (grownBy_alloc _ _) (fun r e => by cases e)⟩
  case round =>
    obtain ⟨todo, ks, hrg, hlen, hP, hJs⟩ := hrel
    have hP' := Lib.hid hP
    have hlen' := Lib.hid hlen
    clear hP hlen
    gi_wp2_with (first
      | (gi_at_next; refine wpListIn_next_map rfl _ rfl rfl hrg ?_ ?_)
      | gi_in)
    · intro h0
      gi_wp2
      go_end0
      exact ⟨⟨_, rfl⟩, ks, by have := hP'.out; rw [h0] at this; simpa using this, hJs⟩
    · intro k1 k2 k3 c1 c2 todo' w2 hperm hrg2 hg2 hs2 hen
      have hJ2 : J ks w2 := hJ ks wr w2 (some W.heap.size) hJs hg2 (fun r e => by cases e; exact ⟨Nat.le_refl _, hrg.iter_walk⟩)
      have hpl := hperm.length_eq
      have hJ3 : J ks (w2.alloc (.cells #[.int .i64 k1, .int .i64 k2, .string k3] 64)) := hJ ks w2 _ none hJ2 (grownBy_alloc _ _) (fun r e => by cases e)
      obtain ⟨fn, tmps, assign, body, hy, hR⟩ := hY ks (k1, k2, k3) _ hJ3 (by have := hlen'.out; simp at hpl; omega)
      have hy' : (Instr.yield l #[.agg #[.int .i64 k1, .int .i64 k2, .string k3]]).run Tryz.prog (w2.alloc (.cells #[.int .i64 k1, .int .i64 k2, .string k3] 64)) = .ok (.round l fn tmps assign body) (w2.alloc (.cells #[.int .i64 k1, .int .i64 k2, .string k3] 64)) := hy
      have hperm' := Lib.hid hperm
      have hrg2' := Lib.hid hrg2
      have hrg' := Lib.hid hrg
      have hpl' := Lib.hid hpl
      clear hs2 hy hperm hrg2 hrg hpl
      gi_wp2
      refine hR.mono ?_
      rintro e W3 ⟨rfl, hJ4, hk3⟩
      gi_wp2
      have hrg3 := (hrg2'.out.of_walks (KeepsWalks.alloc _ _)).of_walks hk3
      go_roundw
      case rel =>
        refine ⟨todo', ks ++ [(k1, k2, k3)], hrg3, ?_, ?_, hJ4⟩
        · have := hlen'.out; have h2 := hpl'.out; simp at h2 ⊢; omega
        · refine List.Perm.trans ?_ hP'.out
          have h2 := (hperm'.out.map Prod.fst).append_left ks
          simpa using h2.symm
      case measure => rw [hrg3.left_eq, hrg'.out.left_eq]; have h2 := hpl'.out; simp at h2; omega

theorem keys_gives (F : Fence) (n : Nat) (h10 : F.fn 84) (hro : F.round = none) (hn : 1 ≤ n) (Bm m : Nat) (L : List (Key × Cnt)) (w : World)
    (hm : w.cell? ⟨Bm, 0, none⟩ = some (.map (some m))) (hown : MapIs w m L) :
    SeqGives F n Tryz.prog 84 #[.pointer (some ⟨Bm, 0, none⟩)] keyV (fun ks => ks.Perm (L.map Prod.fst)) L.length w := fun l J W hW hJ hY h0 =>
  keys1_in F n h10 hro hn l Bm m L J hY W hJ ((hW.cell (p := ⟨Bm, 0, none⟩) (World.block_lt_of_cell? w _ hm)).trans hm) (hown.below hW hown.lt) h0

set_option maxHeartbeats 1000000 in
theorem keys_any (mb : Option Nat) (w : World) :
    Calls Tryz.prog 62 #[.map mb] w fun e w' => e = .returned (.func (.func 84) #[] #[.pointer (some ⟨w.heap.size, 0, none⟩)]) ∧ w' = w.alloc (.cells #[.map mb] 70) := by
  go_enter Tryz.func62, Tryz.ntmps62
  go_wp2_with fail
  go_ret
  exact ⟨rfl, rfl⟩
end Go.Proofs.YtlemadbmlnjhpaaGreatDoor
namespace Go.Proofs.YtlemadbmlnjhpaaGreatDoor
open Go Go.RowKit Go.Proofs
set_option linter.unusedSimpArgs false
set_option linter.unusedVariables false

theorem Tryz.infoKey : (Tryz.prog.info? 64).map (fun i => (i.zero, i.size, i.bytes)) = some (some (.agg #[.int .i64 0, .int .i64 0, .string ⟨#[]⟩]), 3, 32) := by kernel_rfl
def apAssign : Code := (Code.region 2 #[{ dst := some 5, op := Op.alloc 64, type := 0, pos := "iter.go:51", after := #[], guard := none }, { dst := none, op := Op.store 64 (Operand.tmp 5) (Operand.tmp 7), type := 0, pos := "iter.go:51", after := #[{ on := 0, ground := Ground.data }, { on := 0, ground := Ground.phase }], guard := none }] false)
def apBody : Code := (Code.block 1 (Code.region 3 #[{ dst := some 8, op := Op.load 68 (Operand.tmp 2), type := 68, pos := "iter.go:52", after := #[], guard := none }, { dst := some 9, op := Op.load 64 (Operand.tmp 5), type := 64, pos := "iter.go:52", after := #[], guard := none }, { dst := some 10, op := Op.buildSlice 68 1 #[(0, Operand.tmp 9)], type := 68, pos := "iter.go:52", after := #[{ on := 1, ground := Ground.data }], guard := none }, { dst := some 11, op := Op.call { callee := Callee.builtin Builtin.append, args := #[Operand.tmp 8, Operand.tmp 10], argTypes := #[68, 68] }, type := 68, pos := "iter.go:52", after := #[{ on := 0, ground := Ground.data }, { on := 2, ground := Ground.data }], guard := none }, { dst := none, op := Op.store 68 (Operand.tmp 2) (Operand.tmp 11), type := 0, pos := "iter.go:52", after := #[{ on := 3, ground := Ground.data }, { on := 3, ground := Ground.chain }, { on := 0, ground := Ground.phase }, { on := 1, ground := Ground.phase }, { on := 2, ground := Ground.phase }, { on := 3, ground := Ground.phase }], guard := none }] false))
def apRec (fn : FuncId) (sv : Value) (Bs D : Nat) (st : LoopState) (pend : Option Code) : Loop :=
  { state := st, pending := pend, fn, tmps := #[.slice none 0 0, sv, .pointer (some ⟨Bs, 0, none⟩), undef, .slice none 0 0, undef, sv, undef, undef, undef, undef, undef, undef], params := #[7], assign := apAssign, body := apBody, defers := D }

structure ApAt (w0 : World) (fn : FuncId) (sv : Value) (Bs l D : Nat) (ss : List Key) (W : World) : Prop where
  box : ∃ v, W.heap[Bs]? = some (.cells #[v] 68 (0, 0)) ∧ W.ownsRow w0.heap.size 64 3 v ss.length (ss.flatMap keyCells) ∧ (v = .slice none 0 0 ↔ ss = [])
  L : W.heap[l]? = some (.loop (apRec fn sv Bs D .ready none))
  K : W.heap[D]? = some (.deferred (some []))
  below : Below w0.heap.size w0 W

theorem ap_abides (w0 : World) (fn : FuncId) (sv : Value) (Bs l D B : Nat) (hB : w0.heap.size ≤ B) : AbidesFrom B (ApAt w0 fn sv Bs l D) := fun s W W' row h hg hrow => by
  have hrow' : ∀ r, row = some r → ∃ o : Obj, W.heap[r]? = some o ∧ o.isWalk = true := fun r e => (hrow r e).2
  obtain ⟨v, hv, hr, hn⟩ := h.box
  exact ⟨⟨v, (grownBy_keeps hg hrow' hv rfl).trans hv, ownsRow_abides_a hr hg hrow', hn⟩, (grownBy_keeps hg hrow' h.L rfl).trans h.L, (grownBy_keeps hg hrow' h.K rfl).trans h.K,
    h.below.grown hg h.below.size (fun k e => Nat.le_trans hB (hrow k e).1)⟩
theorem loop_ne_cells {r : Loop} {t : TypeId} : ∀ cur, Obj.loop r ≠ .cells cur t (0, 0) := fun _ e => by cases e
theorem def_ne_cells {r : Option (List Deferred)} {t : TypeId} : ∀ cur, Obj.deferred r ≠ .cells cur t (0, 0) := fun _ e => by cases e
theorem cells_ne_cells {c : Array Value} {s t : TypeId} (h : s ≠ t) : ∀ cur, Obj.cells c s (0, 0) ≠ .cells cur t (0, 0) := fun _ e => h (Obj.cells.inj e).2.1
theorem keyTypes_ne : (68 : TypeId) ≠ 64 := by decide
theorem cells_new_row (w : World) (cs : List Value) (t : TypeId) : ∀ j u, cs[j]? = some u → (w.alloc (.cells cs.toArray t)).cell? ((⟨w.heap.size, 0, none⟩ : Addr).add j) = some u := fun j u hj => by
  rw [Addr.add_mid, cell_of_row _ w.heap.size _ _ _ _ (heap_alloc_new w _)]
  simpa using hj
theorem keyCells_one (x : Key) : ∀ u ∈ keyCells x, u.oneCell' = true := fun u hu => by
  simp only [keyCells, List.mem_cons, List.mem_nil_iff, or_false] at hu
  rcases hu with rfl | rfl | rfl <;> rfl

set_option maxRecDepth 100000 in
set_option maxHeartbeats 4000000 in
theorem apYield (F : Fence) (n : Nat) (w0 : World) (fn : FuncId) (hfn : F.fn fn) (sv : Value) (Bs l D : Nat) (hBl : Bs ≠ l) (hDl : D ≠ l) (hDB : D ≠ Bs) (h0B : w0.heap.size ≤ Bs) (h0l : w0.heap.size ≤ l)
    (N : Nat) (hN : N ≤ 1000000) (ss : List Key) (x : Key) (W : World) (h : ApAt w0 fn sv Bs l D ss W) (hlen : ss.length < N) :
    YieldAt F n Tryz.prog l #[keyV x] W fun e W' => e = .returned (.bool true) ∧ ApAt w0 fn sv Bs l D (ss ++ [x]) W' ∧ KeepsWalks W W' := by
  obtain ⟨k1, k2, k3⟩ := x
  obtain ⟨i0, hi, hz0, hz1, hz2⟩ := info_parts Tryz.infoKey
  obtain ⟨v, hv, hrow, _⟩ := h.box
  refine ⟨fn, #[.slice none 0 0, sv, .pointer (some ⟨Bs, 0, none⟩), undef, .slice none 0 0, undef, sv, .agg #[.int .i64 k1, .int .i64 k2, .string k3], undef, undef, undef, undef, undef], apAssign, apBody, by simpa [apRec, keyV] using run_yield (P := Tryz.prog) (args := #[keyV (k1, k2, k3)]) h.L rfl, roundIn_of_wpIn hfn ?_⟩
  -- the variable's block, then the record turned busy
  obtain ⟨W1, hW1⟩ : ∃ W1, W1 = W.alloc (.cells #[.int .i64 k1, .int .i64 k2, .string k3] 64) := ⟨_, rfl⟩
  have hold1 : ∀ k, k < W.heap.size → W1.heap[k]? = W.heap[k]? := fun k hk => by rw [hW1]; exact Below.heap_alloc _ _ k hk
  have hL1 : W1.heap[l]? = some (.loop (apRec fn sv Bs D .ready none)) := (hold1 _ (Array.getElem?_eq_some_iff.1 h.L).1).trans h.L
  have hl : l < W1.heap.size := (Array.getElem?_eq_some_iff.1 hL1).1
  have hbr := run_beginRound (P := Tryz.prog) hL1 rfl
  obtain ⟨W3, hW3⟩ : ∃ W3, W3 = W1.putObj l (.loop { apRec fn sv Bs D .ready none with state := .busy }) := ⟨_, rfl⟩
  rw [← hW3] at hbr
  have hg3 : W1.grownBy W3 (some l) := by rw [hW3]; exact grownBy_putObj_a _ _ _
  have hKW0 : KeepsWalks W W3 := by
    refine KeepsWalks.trans (B := W1) ?_ ?_
    · rw [hW1]; exact KeepsWalks.alloc _ _
    · rw [hW3]; exact KeepsWalks.putObj _ hL1 rfl
  have hv3 : W3.heap[Bs]? = some (.cells #[v] 68 (0, 0)) := by rw [hW3]; exact ((World.putObj_heap_other hBl).trans (hold1 _ (Array.getElem?_eq_some_iff.1 hv).1)).trans hv
  have hK3 : W3.heap[D]? = some (.deferred (some [])) := by rw [hW3]; exact ((World.putObj_heap_other hDl).trans (hold1 _ (Array.getElem?_eq_some_iff.1 h.K).1)).trans h.K
  have hL3 : W3.heap[l]? = some (.loop { apRec fn sv Bs D .ready none with state := .busy }) := by rw [hW3]; exact World.putObj_heap_same hl
  have hrow1 : W1.ownsRow w0.heap.size 64 3 v ss.length (ss.flatMap keyCells) := by rw [hW1]; exact hrow.alloc _
  have hrow3 : W3.ownsRow w0.heap.size 64 3 v ss.length (ss.flatMap keyCells) := hrow1.kept hg3 (ownsRow_ne_a hrow1 hL1 loop_ne_cells)
  have hb3 : Below w0.heap.size w0 W3 := by
    have hb1 : Below w0.heap.size w0 W1 := by rw [hW1]; exact h.below.alloc h.below.size _
    exact hb1.grown hg3 hb1.size (fun k e => by cases e; exact h0l)
  have hlW : l ≠ W.heap.size := by have := (Array.getElem?_eq_some_iff.1 h.L).1; omega
  have q3 : W3.heap[W.heap.size]? = some (.cells #[.int .i64 k1, .int .i64 k2, .string k3] 64 (0, 0)) := by rw [hW3, hW1]; exact (World.putObj_heap_other (Ne.symm hlW)).trans (heap_alloc_new W _)
  have e0 : W3.cell? ⟨W.heap.size, 0, none⟩ = some (.int .i64 k1) := by rw [cell_of_row _ _ _ _ _ _ q3]; rfl
  have e1 : W3.cell? ⟨W.heap.size, 1, none⟩ = some (.int .i64 k2) := by rw [cell_of_row _ _ _ _ _ _ q3]; rfl
  have e2 : W3.cell? ⟨W.heap.size, 2, none⟩ = some (.string k3) := by rw [cell_of_row _ _ _ _ _ _ q3]; rfl
  obtain ⟨hc3, hf3⟩ := cell_of_box_a hv3
  rw [hW1] at hbr
  have hKW := Lib.hid hKW0
  have hv3' := Lib.hid hv3
  have hK3' := Lib.hid hK3
  have hL3' := Lib.hid hL3
  have hrow3' := Lib.hid hrow3
  have hb3' := Lib.hid hb3
  have hlen' := Lib.hid hlen
  have hi' := Lib.hid hi
  have hz0' := Lib.hid hz0
  have hz1' := Lib.hid hz1
  have hz2' := Lib.hid hz2
  clear hKW0 hv3 hK3 hL3 hrow3 hrow1 hb3 hg3 hlen hold1 q3 hv hrow h hi hz0 hz1 hz2 hW3 hL1 hW1
  unfold apAssign
  gi_wp2_with (rw [Oper.semAt_eq _ _ _ (fun c h => by cases h)]; go_simp; try go_bits)
  unfold apBody
  have hn1 : Hid (∀ j u, (keyCells (k1, k2, k3))[j]? = some u → (W3.alloc (.cells #[.int .i64 k1, .int .i64 k2, .string k3] 64)).cell? ((⟨W3.heap.size, 0, none⟩ : Addr).add j) = some u) := cells_new_row W3 (keyCells (k1, k2, k3)) 64
  have hn2 : Hid (∀ u ∈ keyCells (k1, k2, k3), u.oneCell' = true) := keyCells_one _
  have hn3 : Hid (ss.length + 1 ≤ maxLen) := by have := hlen'.out; show _ ≤ _; unfold maxLen; omega
  have hn4 : Hid ((ss.length + 1) * 32 ≤ 140737488355328) := by have := hlen'.out; show _ ≤ _; omega
  have hn5 : Hid (w0.heap.size ≤ (W3.alloc (.cells #[.int .i64 k1, .int .i64 k2, .string k3] 64)).heap.size) := by have := hb3'.out.size; show _ ≤ _; simp; omega
  have hn6 : Hid ((W3.alloc (.cells #[.int .i64 k1, .int .i64 k2, .string k3] 64)).ownsRow w0.heap.size 64 3 v ss.length (ss.flatMap keyCells)) := hrow3'.out.alloc _
  gi_wp2_with (first
    | (gi_at_builtin; refine wpListIn_append_own _ rfl _ _ 68 rfl w0.heap.size 64 i0 (.agg #[.int .i64 0, .int .i64 0, .string ⟨#[]⟩]) 3 32 Tryz.underlying68 hi'.out hz0'.out hz1'.out hz2'.out rfl (by decide) _ _ _ rfl hn6.out ⟨W3.heap.size, 0, none⟩ 1 1 (keyCells (k1, k2, k3)) rfl rfl hn1.out hn2.out hn3.out hn4.out hn5.out ?_; intro v' w4 hown' hg4 hnil4
       have hg4 : (W3.alloc (.cells #[.int .i64 k1, .int .i64 k2, .string k3] 64)).grownBy w4 v.ownBlock := hg4
       have hv4 : w4.heap[Bs]? = some (.cells #[v] 68 (0, 0)) := (hg4.block Bs (by have := (Array.getElem?_eq_some_iff.1 hv3'.out).1; simp; omega) (by rcases ownsRow_ne_a hrow3'.out hv3'.out (cells_ne_cells keyTypes_ne) with e | e; (· rw [e]; simp); (· exact fun e' => e e'.symm))).trans ((Below.heap_alloc _ _ Bs (Array.getElem?_eq_some_iff.1 hv3'.out).1).trans hv3'.out)
       obtain ⟨hc4, hf4⟩ := cell_of_box_a hv4
       obtain ⟨g', cap', cur', rfl, hbase', hgb', hr1, hr2, hr3, hr4⟩ : ∃ g' cap' cur', v' = .slice (some ⟨g', 0, none⟩) (ss.length + 1) cap' ∧ w0.heap.size ≤ g' ∧ w4.heap[g']? = some (.cells cur' 64 (0, 0)) ∧ ss.length + 1 ≤ cap' ∧ cap' ≤ maxLen ∧ cur'.size = cap' * 3 ∧ cur'.toList.take ((ss.length + 1) * 3) = ss.flatMap keyCells ++ keyCells (k1, k2, k3) := by
         rcases hown'.2 with ⟨_, h0⟩ | h'
         · exact absurd h0 (by omega)
         · exact h'
       have hv4' := Lib.hid hv4
       have hown4' := Lib.hid hown'
       have hg4' := Lib.hid hg4
       clear hv4 hown' hg4 hnil4 hgb' hr1 hr2 hr3 hr4
       go_frame)
    | (rw [Oper.semAt_eq _ _ _ (fun c h => by cases h)]; go_simp; try go_bits))
  have hg4 := hg4'.out
  have hown4 := hown4'.out
  have hv4 := hv4'.out
  have ne_of : ∀ {j : Nat} {o : Obj}, W3.heap[j]? = some o → (∀ cur, o ≠ .cells cur 64 (0, 0)) → some j ≠ v.ownBlock := fun hj hno => by
    rcases ownsRow_ne_a hrow3'.out hj hno with e | e
    · rw [e]; simp
    · exact fun e' => e e'.symm
  have carry : ∀ {j : Nat} {o : Obj}, W3.heap[j]? = some o → (∀ cur, o ≠ .cells cur 64 (0, 0)) → w4.heap[j]? = some o := fun hj hno =>
    (hg4.block _ (by have := (Array.getElem?_eq_some_iff.1 hj).1; simp; omega) (ne_of hj hno)).trans ((Below.heap_alloc _ _ _ (Array.getElem?_eq_some_iff.1 hj).1).trans hj)
  have hL4 := carry hL3'.out loop_ne_cells
  have hK4 := carry hK3'.out def_ne_cells
  have hb4 : Below w0.heap.size w0 w4 := (hb3'.out.alloc hb3'.out.size _).grown hg4 (by have := hb3'.out.size; simp; omega) (fun k e => (hrow3'.out.lt k e).1)
  have hk4 : KeepsWalks W w4 := (hKW.out.trans (KeepsWalks.alloc _ _)).trans (KeepsWalks.of_grownBy hg4 (ownsRow_not_walk_a (hrow3'.out.alloc _)))
  obtain ⟨w5, hw5⟩ : ∃ w5, w4.setCell ⟨Bs, 0, none⟩ (.slice (some ⟨g', 0, none⟩) (ss.length + 1) cap') = w5 := ⟨_, rfl⟩
  rw [hw5]
  have hg5 : w4.grownBy w5 (some Bs) := by rw [← hw5]; exact grownBy_setCell0_a _ _ _
  have hv5 : w5.heap[Bs]? = some (.cells #[.slice (some ⟨g', 0, none⟩) (ss.length + 1) cap'] 68 (0, 0)) := by rw [← hw5]; exact heap_setCell_box_a _ hv4
  have hL5 : w5.heap[l]? = some (.loop { apRec fn sv Bs D .ready none with state := .busy }) := (hg5.block l (Array.getElem?_eq_some_iff.1 hL4).1 (fun e => hBl (by cases e; rfl))).trans hL4
  have hK5 : w5.heap[D]? = some (.deferred (some [])) := (hg5.block D (Array.getElem?_eq_some_iff.1 hK4).1 (fun e => hDB (by cases e; rfl))).trans hK4
  have hrow5 := hown4.kept hg5 (ownsRow_ne_a hown4 hv4 (cells_ne_cells keyTypes_ne))
  have hl5 : l < w5.heap.size := (Array.getElem?_eq_some_iff.1 hL5).1
  have hb5 : Below w0.heap.size w0 w5 := hb4.grown hg5 hb4.size (fun k e => by cases e; exact h0B)
  have hk5 : KeepsWalks W w5 := hk4.trans (by rw [← hw5]; exact KeepsWalks.setCell _ _ _)
  clear hw5
  refine ⟨_, _, run_endRound none hL5, rfl, ⟨⟨_, (World.putObj_heap_other hBl).trans hv5, ?_, by simp⟩, World.putObj_heap_same hl5, (World.putObj_heap_other hDl).trans hK5, hb5.grown (grownBy_putObj_a _ _ _) hb5.size (fun k e => by cases e; exact h0l)⟩, hk5.trans (KeepsWalks.putObj _ hL5 rfl)⟩
  have := hrow5.kept (grownBy_putObj_a w5 l (.loop { { apRec fn sv Bs D .ready none with state := .busy } with state := if (none : Option Code).isNone then .ready else .done, pending := none })) (ownsRow_ne_a hrow5 hL5 loop_ne_cells)
  simpa using this

set_option maxRecDepth 100000 in
set_option maxHeartbeats 2000000 in
theorem appendSeq_in (F : Fence) (n : Nat) (h11 : F.fn 102) (hro : F.round = none) (hn : 2 ≤ n) (g : Nat) (lb : Array Value) (hFg : F.fn g) (eg : ∀ args w, (callFunc g args).run Tryz.prog w = .ok (.enter g args) w)
    (S : List Key → Prop) (N : Nat) (hN : N ≤ 1000000) (w : World) (hseq : SeqGives F (n - 1) Tryz.prog g lb keyV S N w) :
    CallsIn F n Tryz.prog 102 #[.slice none 0 0, .func (.func g) #[] lb] w fun e w' => ∃ (v : Value) (ss : List Key), e = .returned v ∧ S ss ∧ w'.ownsRow w.heap.size 64 3 v ss.length (ss.flatMap keyCells) ∧ (v = .slice none 0 0 ↔ ss = []) ∧ Below w.heap.size w w' := by
  have h1 : 1 ≤ n := by omega
  refine callsIn_of_wp_marks Tryz.func102 rfl h11 ?_ hro
  simp only [Tryz.ntmps102, List.size_toArray, List.length_cons, List.length_nil, Nat.reduceAdd, Nat.reduceSub, Array.replicate_succ, Array.replicate_zero, List.push_toArray, List.append_toArray, List.nil_append, List.cons_append]
  gi_wp2
  refine wpIn_rangeFunc ?_
  intro fn hfn
  rw [hro]
  obtain ⟨W0, hW0⟩ : ∃ W0, w.alloc (.cells #[.slice none 0 0] 68) = W0 := ⟨_, rfl⟩
  have hs0 : W0.heap.size = w.heap.size + 1 := by rw [← hW0]; simp
  have hv0 : W0.heap[w.heap.size]? = some (.cells #[.slice none 0 0] 68 (0, 0)) := by rw [← hW0]; exact World.alloc_heap_new w _
  have hb0 : Below w.heap.size w W0 := by rw [← hW0]; exact (Below.refl _ w).alloc (Nat.le_refl _) _
  rw [hW0]
  obtain ⟨W1, hW1⟩ : ∃ W1, (W0.alloc (.deferred (some []))).alloc (.loop (apRec fn (.func (.func g) #[] lb) w.heap.size W0.heap.size .ready none)) = W1 := ⟨_, rfl⟩
  have hold : ∀ k, k < W0.heap.size → W1.heap[k]? = W0.heap[k]? := fun k hk => by
    rw [← hW1]; exact (Below.heap_alloc _ _ k (by simp; omega)).trans (Below.heap_alloc _ _ k hk)
  have hb1 : Below w.heap.size w W1 := by rw [← hW1]; exact (hb0.alloc hb0.size _).alloc (by have := hb0.size; simp; omega) _
  have hs1 : W1.heap.size = W0.heap.size + 2 := by rw [← hW1]; simp
  have hM : ApAt w fn (.func (.func g) #[] lb) w.heap.size (W0.heap.size + 1) W0.heap.size [] W1 :=
    ⟨⟨_, (hold w.heap.size (by omega)).trans hv0, ⟨rfl, .inl ⟨rfl, rfl⟩⟩, by simp⟩,
     by rw [← hW1]; have := World.alloc_heap_new (W0.alloc (.deferred (some []))) (.loop (apRec fn (.func (.func g) #[] lb) w.heap.size W0.heap.size .ready none)); rwa [World.size_alloc] at this,
     by rw [← hW1]; exact (Below.heap_alloc _ _ _ (by simp)).trans (World.alloc_heap_new W0 _), hb1⟩
  refine ⟨W0.heap.size + 1, [{ target := .collected W0.heap.size, args := #[] }], W1, { target := .fn (.func g) lb, args := #[.func (.yield (W0.heap.size + 1)) #[] #[]] }, W1, g,
    #[.func (.yield (W0.heap.size + 1)) #[] #[]] ++ lb, W1, ?_, ?_, ?_, ?_, fun _ => h1, ?_⟩
  · rw [← hW1]; exact run_enterLoop_outer _ _ _ _ _
  · simp [resolve, go_sem]
  · intro f' hf'; simp [Target.leads] at hf'; subst hf'; exact hFg
  · simp [invoke, go_sem, eg]
  · refine (hseq (W0.heap.size + 1) (ApAt w fn (.func (.func g) #[] lb) w.heap.size (W0.heap.size + 1) W0.heap.size) W1 hb1 (ap_abides _ _ _ _ _ _ _ hb1.size)
      (fun pre x W hJ hl => apYield F (n - 1 - 1) w fn hfn _ w.heap.size (W0.heap.size + 1) W0.heap.size (by omega) (by omega) (by omega) (Nat.le_refl _) (by omega) N hN pre x W hJ hl) hM).mono ?_
    rintro e W2 ⟨⟨v0, rfl⟩, ss, hS, h2⟩
    obtain ⟨v, hv, hrow, hnil⟩ := h2.box
    have hend := run_endLoop (P := Tryz.prog) h2.L (by simp [apRec])
    obtain ⟨W3, hW3⟩ : ∃ W3, W2.putObj (W0.heap.size + 1) (.loop { apRec fn (.func (.func g) #[] lb) w.heap.size W0.heap.size .ready none with state := .exhausted }) = W3 := ⟨_, rfl⟩
    rw [hW3] at hend
    have hg3 : W2.grownBy W3 (some (W0.heap.size + 1)) := by rw [← hW3]; exact grownBy_putObj_a _ _ _
    have hv3 : W3.heap[w.heap.size]? = some (.cells #[v] 68 (0, 0)) := by rw [← hW3]; exact (World.putObj_heap_other (by omega)).trans hv
    have hK3 : W3.heap[W0.heap.size]? = some (.deferred (some [])) := by rw [← hW3]; exact (World.putObj_heap_other (by omega)).trans h2.K
    have hrow3 := hrow.kept hg3 (ownsRow_ne_a hrow h2.L loop_ne_cells)
    have hb3 : Below w.heap.size w W3 := h2.below.grown hg3 h2.below.size (fun k e => by cases e; omega)
    obtain ⟨hc3, hf3⟩ := cell_of_box_a hv3
    clear hW3
    refine ⟨none, W3, hend, ?_⟩
    gi_wp2
    rw [← hs0]
    refine ⟨by simp, .inl ⟨_, _, rfl, run_takeDeferred hK3, ?_⟩⟩
    exact ⟨_, results_tmp rfl _ _ _, v, ss, rfl, hS, hrow3.kept (grownBy_putObj_a _ _ _) (ownsRow_ne_a hrow3 hK3 def_ne_cells), hnil, hb3.grown (grownBy_putObj_a _ _ _) hb3.size (fun k e => by cases e; omega)⟩

set_option maxHeartbeats 1000000 in
theorem collect_any (g : Nat) (lb : Array Value) (eg : ∀ args w, (callFunc g args).run Tryz.prog w = .ok (.enter g args) w)
    (S : List Key → Prop) (N : Nat) (hN : N ≤ 1000000) (w : World) (hseq : SeqGives Fence.wide 1 Tryz.prog g lb keyV S N w) :
    Calls Tryz.prog 82 #[.func (.func g) #[] lb] w fun e w' => ∃ (v : Value) (ss : List Key), e = .returned v ∧ S ss ∧ w'.ownsRow w.heap.size 64 3 v ss.length (ss.flatMap keyCells) ∧ (v = .slice none 0 0 ↔ ss = []) ∧ Below w.heap.size w w' := by
  have hA := callsIn_wide.1 (appendSeq_in Fence.wide 2 trivial rfl (Nat.le_refl _) g lb trivial eg S N hN w hseq)
  have hA' := Lib.hid hA
  clear hA hseq
  go_enter Tryz.func82, Tryz.ntmps82
  go_wp2_with (go_at_call 102; fail)
  refine hA'.out.mono ?_
  rintro e w' ⟨v, ss, rfl, hS, hrow, hnil, hb⟩
  go_wp2_with fail
  go_ret
  exact ⟨v, ss, rfl, hS, hrow, hnil, hb⟩
end Go.Proofs.YtlemadbmlnjhpaaGreatDoor
