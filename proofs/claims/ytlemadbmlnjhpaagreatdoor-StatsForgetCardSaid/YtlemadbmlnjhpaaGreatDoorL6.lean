/- maps.Keys over the map of counts: its iterator, for every loop body that keeps its word. -/
import Derived.Test.YtlemadbmlnjhpaaGreatDoorL5
import Derived.RangeFuncGives
import Derived.Sort.MapsRangeIn
import Derived.WalkKit
import Derived.OwnWalkIn
import Derived.TacticsInMore
import Derived.RegionIn
import Derived.LoopNIn
import Derived.LoopIn
namespace Go.Proofs.YtlemadbmlnjhpaaGreatDoor
open Go Go.RowKit Go.Proofs
set_option linter.unusedSimpArgs false
set_option linter.unusedVariables false

theorem Ranging.left_eq {w : World} {m r : Nat} {L todo : List (Key × Cnt)} (h : Ranging w m r L todo) : w.rangeLeft m r = todo.length := by
  obtain ⟨es, clock, since, c0, seen, h1, h2, h3, h4, h5, h6, h7, h8, h9⟩ := h
  simp only [World.rangeLeft, h2, h1]
  have := congrArg List.length h9
  simpa using this
theorem Ranging.of_walks {w w' : World} {m r : Nat} {L todo : List (Key × Cnt)} (h : Ranging w m r L todo) (hk : KeepsWalks w w') : Ranging w' m r L todo := by
  obtain ⟨es, clock, since, c0, seen, h1, h2, rest⟩ := h
  exact ⟨es, clock, since, c0, seen, hk.same r _ h1 rfl, hk.same m _ h2 rfl, rest⟩
theorem Ranging.iter_walk {w : World} {m r : Nat} {L todo : List (Key × Cnt)} (h : Ranging w m r L todo) : ∃ o : Obj, w.heap[r]? = some o ∧ o.isWalk = true := by
  obtain ⟨es, clock, since, c0, seen, h1, _⟩ := h
  exact ⟨_, h1, rfl⟩
theorem grownBy_alloc (w : World) (o : Obj) : w.grownBy (w.alloc o) none :=
  ⟨rfl, rfl, rfl, by simp, fun k hk _ => Below.heap_alloc w o k hk⟩

theorem wpListIn_range_map {F : Fence} {n : Nat} {w : World} {ops : Array Oper} {rest : List Oper} {o : Oper} {a : Act} {Q : Exit → Act → World → Prop}
    (hg : o.guard = none) (x : Operand) (hop : o.op = Op.range 70 x) {m : Nat} {L : List (Key × Cnt)} (hm : a.eval x = .map (some m)) (h : MapIs w m L)
    (hK : ∀ ob, Ranging (w.alloc ob) m w.heap.size L L → wpListIn F n Tryz.prog ops Q rest (a.put o.dst (.pointer (some ⟨w.heap.size, 0, none⟩))) (w.alloc ob)) :
    wpListIn F n Tryz.prog ops Q (o :: rest) a w := by
  refine wpListIn_plain hg fun K' hK' => ?_
  obtain ⟨ob, hrun, hr⟩ := h.range
  unfold Oper.wpIn
  refine ⟨by simp [Oper.about, hop], ?_⟩
  rw [Oper.semAt_plain F _ _ (by rw [hop]; intro c hc'; cases hc')]
  simp [execOp, hop, hm, hrun, Result.andThen]
  exact hK' _ _ (hK ob hr)

theorem wpListIn_next_map {F : Fence} {n : Nat} {w : World} {ops : Array Oper} {rest : List Oper} {o : Oper} {a : Act} {Q : Exit → Act → World → Prop}
    (hg : o.guard = none) (it : Operand) (hop : o.op = Op.next it false) {m r : Nat} {L todo : List (Key × Cnt)} (hit : a.eval it = .pointer (some ⟨r, 0, none⟩)) (h : Ranging w m r L todo)
    (hDone : todo = [] → wpListIn F n Tryz.prog ops Q rest (a.put o.dst (.tuple #[.bool false])) w)
    (hMore : ∀ (k1 k2 : Int) (k3 : ByteArray) (c1 c2 : Int) (todo' : List (Key × Cnt)) (w1 : World), todo.Perm (((k1, k2, k3), (c1, c2)) :: todo') → Ranging w1 m r L todo' → w.grownBy w1 (some r) → w1.heap.size = w.heap.size →
      (Instr.entry (.pointer (some ⟨r, 0, none⟩))).run Tryz.prog w1 = .ok (.tuple #[.agg #[.int .i64 k1, .int .i64 k2, .string k3], .agg #[.int .i64 c1, .int .i64 c2]]) w1 →
      wpListIn F n Tryz.prog ops Q rest (a.put o.dst (.tuple #[.bool true, .agg #[.int .i64 k1, .int .i64 k2, .string k3], .agg #[.int .i64 c1, .int .i64 c2]])) w1) :
    wpListIn F n Tryz.prog ops Q (o :: rest) a w := by
  refine wpListIn_plain hg fun K' hK' => ?_
  unfold Oper.wpIn
  refine ⟨by simp [Oper.about, hop], ?_⟩
  rw [Oper.semAt_plain F _ _ (by rw [hop]; intro c hc'; cases hc')]
  rcases h.next o.type with ⟨h0, hrun⟩ | ⟨⟨⟨k1, k2, k3⟩, ⟨c1, c2⟩⟩, todo', w1, hp, hrun, hr, hgr, hsz, hen⟩
  · simp [execOp, hop, hit, hrun, Result.andThen]
    exact hK' _ _ (hDone h0)
  · simp [execOp, hop, hit, hrun, Result.andThen]
    exact hK' _ _ (hMore k1 k2 k3 c1 c2 todo' w1 hp hr hgr hsz hen)

set_option maxRecDepth 100000 in
set_option maxHeartbeats 1000000 in
theorem keys1_in (F : Fence) (n : Nat) (h10 : F.fn 84) (hro : F.round = none) (hn : 1 ≤ n) (l Bm m : Nat) (L : List (Key × Cnt)) (J : List Key → World → Prop)
    (hY : ∀ pre x W, J pre W → pre.length < L.length → YieldAt F (n - 1) Tryz.prog l #[keyV x] W fun e W' => e = .returned (.bool true) ∧ J (pre ++ [x]) W' ∧ KeepsWalks W W')
    (W : World) (hJ : AbidesFrom W.heap.size J) (hm : W.cell? ⟨Bm, 0, none⟩ = some (.map (some m))) (hown : MapIs W m L) (h0 : J [] W) :
    CallsIn F n Tryz.prog 84 #[.func (.yield l) #[] #[], .pointer (some ⟨Bm, 0, none⟩)] W fun e W' => (∃ v, e = .returned v) ∧ ∃ ks : List Key, ks.Perm (L.map Prod.fst) ∧ J ks W' := by
  refine callsIn_of_wp Tryz.func84 rfl h10 ?_ hro
  simp only [Tryz.ntmps84, List.size_toArray, List.length_cons, List.length_nil, Nat.reduceAdd, Nat.reduceSub, Array.replicate_succ, Array.replicate_zero, List.push_toArray, List.append_toArray, List.nil_append, List.cons_append]
  gi_wp2_with (first
    | (gi_at_range; refine wpListIn_range_map rfl _ rfl rfl hown ?_; intro ob hrg0)
    | gi_in)
  go_frame
  gi_loopw [3] (fun _ wr => ∃ (todo : List (Key × Cnt)) (ks : List Key), Ranging wr m W.heap.size L todo ∧ ks.length + todo.length = L.length ∧ (ks ++ todo.map Prod.fst).Perm (L.map Prod.fst) ∧ J ks wr)
    (fun _ wr => wr.rangeLeft m W.heap.size)
  case atStart =>
    exact ⟨L, [], hrg0, by simp, by simp, hJ [] W _ none h0 (grownBy_alloc _ _) (fun r e => by cases e)⟩
  case round =>
    obtain ⟨todo, ks, hrg, hlen, hP, hJs⟩ := hrel
    have hP' := Lib.hid hP
    have hlen' := Lib.hid hlen
    clear hP hlen
    gi_wp2_with (first
      | (gi_at_next; refine wpListIn_next_map rfl _ rfl rfl hrg ?_ ?_)
      | gi_in)
    · intro h0
      gi_wp2
      go_end0
      exact ⟨⟨_, rfl⟩, ks, by have := hP'.out; rw [h0] at this; simpa using this, hJs⟩
    · intro k1 k2 k3 c1 c2 todo' w2 hperm hrg2 hg2 hs2 hen
      have hJ2 : J ks w2 := hJ ks wr w2 (some W.heap.size) hJs hg2 (fun r e => by cases e; exact ⟨Nat.le_refl _, hrg.iter_walk⟩)
      have hpl := hperm.length_eq
      have hJ3 : J ks (w2.alloc (.cells #[.int .i64 k1, .int .i64 k2, .string k3] 64)) := hJ ks w2 _ none hJ2 (grownBy_alloc _ _) (fun r e => by cases e)
      obtain ⟨fn, tmps, assign, body, hy, hR⟩ := hY ks (k1, k2, k3) _ hJ3 (by have := hlen'.out; simp at hpl; omega)
      have hy' : (Instr.yield l #[.agg #[.int .i64 k1, .int .i64 k2, .string k3]]).run Tryz.prog (w2.alloc (.cells #[.int .i64 k1, .int .i64 k2, .string k3] 64)) = .ok (.round l fn tmps assign body) (w2.alloc (.cells #[.int .i64 k1, .int .i64 k2, .string k3] 64)) := hy
      have hperm' := Lib.hid hperm
      have hrg2' := Lib.hid hrg2
      have hrg' := Lib.hid hrg
      have hpl' := Lib.hid hpl
      clear hs2 hy hperm hrg2 hrg hpl
      gi_wp2
      refine hR.mono ?_
      rintro e W3 ⟨rfl, hJ4, hk3⟩
      gi_wp2
      have hrg3 := (hrg2'.out.of_walks (KeepsWalks.alloc _ _)).of_walks hk3
      go_roundw
      case rel =>
        refine ⟨todo', ks ++ [(k1, k2, k3)], hrg3, ?_, ?_, hJ4⟩
        · have := hlen'.out; have h2 := hpl'.out; simp at h2 ⊢; omega
        · refine List.Perm.trans ?_ hP'.out
          have h2 := (hperm'.out.map Prod.fst).append_left ks
          simpa using h2.symm
      case measure => rw [hrg3.left_eq, hrg'.out.left_eq]; have h2 := hpl'.out; simp at h2; omega

theorem keys_gives (F : Fence) (n : Nat) (h10 : F.fn 84) (hro : F.round = none) (hn : 1 ≤ n) (Bm m : Nat) (L : List (Key × Cnt)) (w : World)
    (hm : w.cell? ⟨Bm, 0, none⟩ = some (.map (some m))) (hown : MapIs w m L) :
    SeqGives F n Tryz.prog 84 #[.pointer (some ⟨Bm, 0, none⟩)] keyV (fun ks => ks.Perm (L.map Prod.fst)) L.length w := fun l J W hW hJ hY h0 =>
  keys1_in F n h10 hro hn l Bm m L J hY W hJ ((hW.cell (p := ⟨Bm, 0, none⟩) (World.block_lt_of_cell? w _ hm)).trans hm) (hown.below hW hown.lt) h0

set_option maxHeartbeats 1000000 in
theorem keys_any (mb : Option Nat) (w : World) :
    Calls Tryz.prog 62 #[.map mb] w fun e w' => e = .returned (.func (.func 84) #[] #[.pointer (some ⟨w.heap.size, 0, none⟩)]) ∧ w' = w.alloc (.cells #[.map mb] 70) := by
  go_enter Tryz.func62, Tryz.ntmps62
  go_wp2_with fail
  go_ret
  exact ⟨rfl, rfl⟩
end Go.Proofs.YtlemadbmlnjhpaaGreatDoor
