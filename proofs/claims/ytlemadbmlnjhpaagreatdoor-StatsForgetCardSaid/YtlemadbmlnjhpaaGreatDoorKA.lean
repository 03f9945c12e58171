/- The contracts of stats: New, sum, Total, Of. -/
import Derived.Test.YtlemadbmlnjhpaaGreatDoorK9
import Derived.Deep.LoopGhost
import Derived.Maps.RangeWalk
namespace Go.Proofs.YtlemadbmlnjhpaaGreatDoor
open Go Go.RowKit Go.Proofs
open Go.ChangeMaps (setBlock)
set_option linter.unusedSimpArgs false
set_option linter.unusedVariables false

/-- the sum of the counts of the keys for which p holds -/
def sumBy (p : Key → Bool) : List (Key × Cnt) → Cnt
  | [] => (0, 0)
  | q :: r => if p q.1 then (q.2.1 + (sumBy p r).1, q.2.2 + (sumBy p r).2) else sumBy p r
def Bnd (L : List (Key × Cnt)) : Prop := (∀ q ∈ L, 0 ≤ q.2.1 ∧ 0 ≤ q.2.2) ∧ (sumBy (fun _ => true) L).1 ≤ 1000000000000 ∧ (sumBy (fun _ => true) L).2 ≤ 1000000000000
theorem sumBy_perm (p : Key → Bool) {L M : List (Key × Cnt)} (h : L.Perm M) : sumBy p L = sumBy p M := by
  induction h with
  | nil => rfl
  | cons x _ ih => simp only [sumBy, ih]
  | swap x y l =>
    simp only [sumBy]
    by_cases h1 : p x.1 = true <;> by_cases h2 : p y.1 = true <;> simp [h1, h2] <;> omega
  | trans _ _ ih1 ih2 => rw [ih1, ih2]
theorem Bnd.perm {L M : List (Key × Cnt)} (h : Bnd L) (hp : L.Perm M) : Bnd M :=
  ⟨fun q hq => h.1 q (hp.mem_iff.2 hq), by rw [← sumBy_perm _ hp]; exact h.2.1, by rw [← sumBy_perm _ hp]; exact h.2.2⟩
theorem Bnd.tail {q : Key × Cnt} {L : List (Key × Cnt)} (h : Bnd (q :: L)) : Bnd L := by
  obtain ⟨h1, h2, h3⟩ := h
  have := h1 q (by simp)
  simp only [sumBy, if_true] at h2 h3
  exact ⟨fun x hx => h1 x (by simp [hx]), by omega, by omega⟩
theorem sumBy_bound (p : Key → Bool) : ∀ {L : List (Key × Cnt)}, (∀ q ∈ L, 0 ≤ q.2.1 ∧ 0 ≤ q.2.2) → 0 ≤ (sumBy p L).1 ∧ 0 ≤ (sumBy p L).2 ∧ (sumBy p L).1 ≤ (sumBy (fun _ => true) L).1 ∧ (sumBy p L).2 ≤ (sumBy (fun _ => true) L).2
  | [], _ => by simp [sumBy]
  | q :: r, h => by
    have hq := h q (by simp)
    have ih := sumBy_bound p (L := r) (fun x hx => h x (by simp [hx]))
    simp only [sumBy, if_true]
    split <;> (try simp only []) <;> omega

set_option maxHeartbeats 400000 in
theorem plus_any (a b c d : Int) (w : World) (h1 : 0 ≤ a ∧ a ≤ 1000000000000) (h2 : 0 ≤ b ∧ b ≤ 1000000000000) (h3 : 0 ≤ c ∧ c ≤ 1000000000000) (h4 : 0 ≤ d ∧ d ≤ 1000000000000) :
    Calls Tryz.prog 47 #[.agg #[.int .i64 a, .int .i64 b], .agg #[.int .i64 c, .int .i64 d]] w fun e w' =>
      e = .returned (.agg #[.int .i64 (a + c), .int .i64 (b + d)]) ∧ Below w.heap.size w w' := by
  obtain ⟨h1, h1'⟩ := h1
  obtain ⟨h2, h2'⟩ := h2
  obtain ⟨h3, h3'⟩ := h3
  obtain ⟨h4, h4'⟩ := h4
  go_enter Tryz.func47, Tryz.ntmps47
  go_wp2_with fail
  exact bodyPost_ret (v := .agg #[.int .i64 (a + c), .int .i64 (b + d)]) (by simp [results, Tryz.results47, go_sem]) rfl ⟨rfl, (((Below.refl _ _).alloc (Nat.le_refl _) _).alloc (by simp) _).alloc (by simp <;> omega) _⟩

/-- what a caller pays of the predicate that sum is handed -/
def KeyPred (g : Nat) (lb : Array Value) (p : Key → Bool) (w : World) : Prop :=
  ∀ (W : World) (k1 k2 : Int) (k3 : ByteArray), Below w.heap.size w W → Calls Tryz.prog g (#[.agg #[.int .i64 k1, .int .i64 k2, .string k3]] ++ lb) W fun e W' => e = .returned (.bool (p (k1, k2, k3))) ∧ Below W.heap.size W W'

set_option maxHeartbeats 1600000 in
theorem sum_any (sb m g : Nat) (lb : Array Value) (p : Key → Bool) (L : List (Key × Cnt)) (w : World) (hs : w.cell? ⟨sb, 0, none⟩ = some (.map (some m))) (hm : MapIs w m L) (hb : Bnd L)
    (eg : ∀ args w, (callFunc g args).run Tryz.prog w = .ok (.enter g args) w) (hp : KeyPred g lb p w) :
    Calls Tryz.prog 32 #[.pointer (some ⟨sb, 0, none⟩), .func (.func g) #[] lb] w fun e w' => e = .returned (.agg #[.int .i64 (sumBy p L).1, .int .i64 (sumBy p L).2]) ∧ Below w.heap.size w w' := by
  have hp' := Lib.hid hp
  have hb' := Lib.hid hb
  clear hp hb
  have hsb := World.block_lt_of_cell? w _ hs
  have hmlt := hm.lt
  have hs2 : ∀ o1 o2, ((w.alloc o1).alloc o2).cell? ⟨sb, 0, none⟩ = some (.map (some m)) := fun o1 o2 => ((((Below.refl w.heap.size w).alloc (Nat.le_refl _) o1).alloc (by simp) o2).cell (p := ⟨sb, 0, none⟩) hsb).trans hs
  have hm' : MapIs ((w.alloc (.cells #[.int .i64 0, .int .i64 0] 34)).alloc (.cells #[.int .i64 0, .int .i64 0] 34)) m L := hm.below (((Below.refl w.heap.size w).alloc (Nat.le_refl _) _).alloc (by simp) _) hm.lt
  go_enter Tryz.func32, Tryz.ntmps32
  go_wp2_with (at_range; go_loud (refine wpList_range_map rfl _ rfl rfl hm' ?_); intro ob hrg)
  have hrg' := Lib.hid hrg
  clear hrg hm' hs2
  go_loopg [] L.length (fun n wr => ∃ (x y : Int) (todo : List (Key × Cnt)), n = todo.length ∧ Bnd todo ∧ 0 ≤ x ∧ 0 ≤ y ∧ x + (sumBy p todo).1 = (sumBy p L).1 ∧ y + (sumBy p todo).2 = (sumBy p L).2 ∧
    wr.heap[w.heap.size]? = some (.cells #[.int .i64 0, .int .i64 0] 34 (0, 0)) ∧ wr.heap[w.heap.size + 1]? = some (.cells #[.int .i64 x, .int .i64 y] 34 (0, 0)) ∧ Ranging wr m (w.heap.size + 1 + 1) L todo ∧ Below w.heap.size w wr)
  case atStart =>
    refine ⟨0, 0, L, rfl, hb'.out, Int.le_refl _, Int.le_refl _, by simp, by simp, ?_, ?_, by simpa using hrg'.out, ((((Below.refl _ _).alloc (Nat.le_refl _) _).alloc (by simp) _).alloc (by simp <;> omega) _)⟩
    · rw [heap_alloc_old _ _ (by simp <;> omega)]; exact heap_alloc2_old _ _ _
    · rw [heap_alloc_old _ _ (by simp)]; exact heap_alloc2_new _ _ _
  case round =>
    obtain ⟨x, y, todo, rfl, hbt, hx0, hy0, hx, hy, hres, hout, hrg, hbel⟩ := hrel
    have hlt := hrg.lt
    have hsz0 := hbel.size
    have hout' := Lib.hid hout
    have hres' := Lib.hid hres
    have hbel' := Lib.hid hbel
    have hbt' := Lib.hid hbt
    have hx' := Lib.hid hx
    have hy' := Lib.hid hy
    clear hout hres hbel hbt hx hy
    go_wp2_with (at_next; refine wpList_next_map rfl _ rfl rfl hrg ?_ ?_)
    · intro h0
      subst h0
      have hc0 : wr.cell? ⟨w.heap.size + 1, 0, none⟩ = some (.int .i64 x) := by rw [cell_of_row _ _ _ _ _ _ hout'.out]; rfl
      have hc1 : wr.cell? ⟨w.heap.size + 1, 1, none⟩ = some (.int .i64 y) := by rw [cell_of_row _ _ _ _ _ _ hout'.out]; rfl
      have hd0 : wr.cell? ⟨w.heap.size, 0, none⟩ = some (.int .i64 0) := by rw [cell_of_row _ _ _ _ _ _ hres'.out]; rfl
      have hd1 : wr.cell? ⟨w.heap.size, 1, none⟩ = some (.int .i64 0) := by rw [cell_of_row _ _ _ _ _ _ hres'.out]; rfl
      have hf0 : wr.frozen? ⟨w.heap.size, 0, none⟩ = false := frozen_of_row _ _ _ _ _ hres'.out
      have hf1 : wr.frozen? ⟨w.heap.size, 1, none⟩ = false := frozen_of_row _ _ _ _ _ hres'.out
      clear hrg
      go_wp2_with fail
      have hxx : x = (sumBy p L).1 := by have := hx'.out; simp only [sumBy] at this; omega
      have hyy : y = (sumBy p L).2 := by have := hy'.out; simp only [sumBy] at this; omega
      refine bodyPost_ret (v := .agg #[.int .i64 x, .int .i64 y]) (by simp [results, Tryz.results32, go_sem, hd0, hd1]) rfl ⟨by rw [hxx, hyy], (hbel'.out.setCell (Nat.le_refl _) _).setCell (Nat.le_refl _) _⟩
    · intro k1 k2 k3 c1 c2 todo' w1 hperm hrg1 hg1 hsz1 hen
      have hbt1 := hbt'.out.perm hperm
      have hout1 : w1.heap[w.heap.size + 1]? = some (.cells #[.int .i64 x, .int .i64 y] 34 (0, 0)) := (hg1.block _ (by omega) (by simp)).trans hout'.out
      have hres1 : w1.heap[w.heap.size]? = some (.cells #[.int .i64 0, .int .i64 0] 34 (0, 0)) := (hg1.block _ (by omega) (by simp <;> omega)).trans hres'.out
      have hbel1 : Below w.heap.size w w1 := hbel'.out.grown hg1 hsz0 (fun j hj => by cases hj; omega)
      have hcnt : 0 ≤ c1 ∧ c1 ≤ 1000000000000 ∧ 0 ≤ c2 ∧ c2 ≤ 1000000000000 := by
        have h1 := hbt1.1 ((k1, k2, k3), (c1, c2)) (by simp)
        have h2 := hbt1.2
        have h3 := sumBy_bound (fun _ => true) hbt1.tail.1
        simp only [sumBy, if_true] at h1 h2
        omega
      have hsum : sumBy p todo = sumBy p (((k1, k2, k3), (c1, c2)) :: todo') := sumBy_perm p hperm
      have hxb : x ≤ 1000000000000 ∧ y ≤ 1000000000000 := by
        have h1 := sumBy_bound p hbt'.out.1
        have h2 := hx'.out
        have h3 := hy'.out
        have h4 := sumBy_bound p hb'.out.1
        have h5 := hb'.out.2
        omega
      have hlt1 := hrg1.lt
      -- the world in which the predicate is called, and the one behind it
      obtain ⟨W1, hW1⟩ : ∃ W1, W1 = (w1.alloc (.cells #[.int .i64 k1, .int .i64 k2, .string k3] 64)).alloc (.cells #[.int .i64 c1, .int .i64 c2] 34) := ⟨_, rfl⟩
      have hb1 : Below w1.heap.size w1 W1 := by rw [hW1]; exact ((Below.refl _ _).alloc (Nat.le_refl _) _).alloc (by simp) _
      have hbw1 : Below w.heap.size w W1 := hbel1.trans (hb1.mono (by omega))
      have hW1s : W1.heap.size = w1.heap.size + 1 + 1 := by rw [hW1]; simp
      have hcell1 : W1.heap[w1.heap.size + 1]? = some (.cells #[.int .i64 c1, .int .i64 c2] 34 (0, 0)) := by rw [hW1]; exact heap_alloc2_new _ _ _
      have hpc := hp'.out W1 k1 k2 k3 hbw1
      have facts : ∀ W2, Below W1.heap.size W1 W2 → W2.heap[w.heap.size + 1]? = some (.cells #[.int .i64 x, .int .i64 y] 34 (0, 0)) ∧ W2.heap[w.heap.size]? = some (.cells #[.int .i64 0, .int .i64 0] 34 (0, 0)) ∧ W2.heap[w1.heap.size + 1]? = some (.cells #[.int .i64 c1, .int .i64 c2] 34 (0, 0)) ∧ Ranging W2 m (w.heap.size + 1 + 1) L todo' ∧ Below w.heap.size w W2 := fun W2 h2 => by
        refine ⟨?_, ?_, ?_, ?_, hbw1.trans (h2.mono (by omega))⟩
        · rw [h2.block _ (by omega), hb1.block _ (by omega)]; exact hout1
        · rw [h2.block _ (by omega), hb1.block _ (by omega)]; exact hres1
        · rw [h2.block _ (by omega)]; exact hcell1
        · exact hrg1.block (by rw [h2.block _ (by omega), hb1.block _ (by omega)]) (by rw [h2.block _ (by omega), hb1.block _ (by omega)])
      rw [hW1] at hpc
      have hpc' := Lib.hid hpc
      have facts' := Lib.hid facts
      have hperm' := Lib.hid hperm
      have hsum' := Lib.hid hsum
      have hbt1' := Lib.hid hbt1
      have hW1' := Lib.hid hW1
      have hrg1' := Lib.hid hrg1
      clear hpc facts hperm hsum hbt1 hcell1 hW1s hbw1 hb1 hbel1 hout1 hres1 hg1 hW1 hrg1 hsz1 hs hrg
      obtain ⟨e1, e2, e3, e4⟩ := hcnt
      obtain ⟨e5, e6⟩ := hxb
      go_wp2_with (go_at_fn g; fail)
      refine hpc'.out.mono ?_
      rintro e W2 ⟨rfl, hb2⟩
      obtain ⟨f1, f2, f3, f4, f5⟩ := facts'.out W2 (by rw [hW1'.out]; exact hb2)
      have o0 : W2.cell? ⟨w.heap.size + 1, 0, none⟩ = some (.int .i64 x) := by rw [cell_of_row _ _ _ _ _ _ f1]; rfl
      have o1 : W2.cell? ⟨w.heap.size + 1, 1, none⟩ = some (.int .i64 y) := by rw [cell_of_row _ _ _ _ _ _ f1]; rfl
      have o2 : W2.cell? ⟨w1.heap.size + 1, 0, none⟩ = some (.int .i64 c1) := by rw [cell_of_row _ _ _ _ _ _ f3]; rfl
      have o3 : W2.cell? ⟨w1.heap.size + 1, 1, none⟩ = some (.int .i64 c2) := by rw [cell_of_row _ _ _ _ _ _ f3]; rfl
      have f1' := Lib.hid f1
      have f2' := Lib.hid f2
      have f4' := Lib.hid f4
      have f5' := Lib.hid f5
      have hsz2 : w.heap.size + 2 < W2.heap.size := by have := f4.lt; omega
      clear f1 f2 f3 f4 f5 hb2 facts'
      cases hpk : p (k1, k2, k3) with
      | true =>
        have hpk' := Lib.hid hpk
        clear hpk
        go_wp2_with (go_at_call 47; fail)
        refine (plus_any x y c1 c2 _ ⟨hx0, e5⟩ ⟨hy0, e6⟩ ⟨e1, e2⟩ ⟨e3, e4⟩).mono ?_
        rintro e W3 ⟨rfl, hb3⟩
        have f6 : W3.heap[w.heap.size + 1]? = some (.cells #[.int .i64 x, .int .i64 y] 34 (0, 0)) := (hb3.block _ (by omega)).trans f1'.out
        have f7 : W3.heap[w.heap.size]? = some (.cells #[.int .i64 0, .int .i64 0] 34 (0, 0)) := (hb3.block _ (by omega)).trans f2'.out
        have f8 : Ranging W3 m (w.heap.size + 1 + 1) L todo' := f4'.out.block (hb3.block _ f4'.out.lt.1) (hb3.block _ f4'.out.lt.2.1)
        have f9 : Below w.heap.size w W3 := f5'.out.trans (hb3.mono (by omega))
        have q0 : W3.cell? ⟨w.heap.size + 1, 0, none⟩ = some (.int .i64 x) := by rw [cell_of_row _ _ _ _ _ _ f6]; rfl
        have q1 : W3.cell? ⟨w.heap.size + 1, 1, none⟩ = some (.int .i64 y) := by rw [cell_of_row _ _ _ _ _ _ f6]; rfl
        have q2 : W3.frozen? ⟨w.heap.size + 1, 0, none⟩ = false := frozen_of_row _ _ _ _ _ f6
        have q3 : W3.frozen? ⟨w.heap.size + 1, 1, none⟩ = false := frozen_of_row _ _ _ _ _ f6
        have hsz3 := hb3.size
        have f6' := Lib.hid f6
        have f7' := Lib.hid f7
        have f8' := Lib.hid f8
        have f9' := Lib.hid f9
        clear f6 f7 f8 f9 hb3
        go_wp2_with fail
        go_roundg todo'.length
        case measure => have := hperm'.out.length_eq; simp at this; omega
        case rel =>
          have hs1 : sumBy p todo = (c1 + (sumBy p todo').1, c2 + (sumBy p todo').2) := by rw [hsum'.out]; simp only [sumBy, hpk'.out, if_true]
          have hx1 := hx'.out
          have hy1 := hy'.out
          rw [hs1] at hx1 hy1
          refine ⟨x + c1, y + c2, todo', rfl, hbt1'.out.tail, by omega, by omega, by omega, by omega, ?_, ?_, ?_, ?_⟩
          · rw [heap_setCell_other _ _ _ _ (by simp), heap_setCell_other _ _ _ _ (by simp)]; exact f7'.out
          · rw [heap_setCell_same _ _ _ _ _ _ (heap_setCell_same _ _ _ _ _ _ f6'.out)]; rfl
          · exact f8'.out.block (by rw [heap_setCell_other _ _ _ _ (by simp <;> omega), heap_setCell_other _ _ _ _ (by simp <;> omega)]) (by rw [heap_setCell_other _ _ _ _ (by simp), heap_setCell_other _ _ _ _ (by simp)])
          · exact (f9'.out.setCell (by simp) _).setCell (by simp) _
      | false =>
        have hpk' := Lib.hid hpk
        clear hpk
        go_wp2_with fail
        go_roundg todo'.length
        case measure => have := hperm'.out.length_eq; simp at this; omega
        case rel =>
          have hs1 : sumBy p todo = sumBy p todo' := by rw [hsum'.out]; simp only [sumBy, hpk'.out, Bool.false_eq_true, if_false]
          have hx1 := hx'.out
          have hy1 := hy'.out
          rw [hs1] at hx1 hy1
          exact ⟨x, y, todo', rfl, hbt1'.out.tail, hx0, hy0, hx1, hy1, f2'.out, f1'.out, f4'.out, f5'.out⟩

theorem totclos_enters : ∀ (args : Array Value) (w : World), Sem.run Tryz.prog (callFunc 33 args) w = Result.ok (Next.enter 33 args) w :=
  enters_of Tryz.func33 (by kernel_rfl) rfl
def isWhole (k : Key) : Bool := k.2.1 == 0
theorem totclos_pays (w : World) : KeyPred 33 #[] isWhole w := fun W k1 k2 k3 _ => by
  show Calls Tryz.prog 33 #[.agg #[.int .i64 k1, .int .i64 k2, .string k3]] W _
  go_enter Tryz.func33, Tryz.ntmps33
  go_wp2_with fail
  go_ret
  exact ⟨rfl, (Below.refl _ _).alloc (Nat.le_refl _) _⟩

/-- statistics in memory: their block, their map's block, the counts and the sizes -/
def StatsAt (w : World) (sb m : Nat) (L : List (Key × Cnt)) (zs : List Int) : Prop :=
  w.heap[sb]? = some (.cells (Value.map (some m) :: zs.map (Value.int .i64)).toArray 72 (0, 0)) ∧ zs.length = 18 ∧ MapIs w m L
theorem StatsAt.cell0 {w : World} {sb m : Nat} {L : List (Key × Cnt)} {zs : List Int} (h : StatsAt w sb m L zs) : w.cell? ⟨sb, 0, none⟩ = some (.map (some m)) := by
  rw [cell_of_row _ _ _ _ _ _ h.1]; rfl
theorem StatsAt.lt {w : World} {sb m : Nat} {L : List (Key × Cnt)} {zs : List Int} (h : StatsAt w sb m L zs) : sb < w.heap.size ∧ m < w.heap.size ∧ sb ≠ m := by
  refine ⟨(Array.getElem?_eq_some_iff.1 h.1).1, h.2.2.lt, fun e => ?_⟩
  subst e
  obtain ⟨es, clock, h1, _⟩ := h.2.2
  rw [h.1] at h1; cases h1
theorem StatsAt.below {w w' : World} {sb m : Nat} {L : List (Key × Cnt)} {zs : List Int} (h : StatsAt w sb m L zs) (hb : Below w.heap.size w w') : StatsAt w' sb m L zs :=
  ⟨(hb.block sb h.lt.1).trans h.1, h.2.1, h.2.2.below hb h.lt.2.1⟩

theorem total_any (sb m : Nat) (L : List (Key × Cnt)) (zs : List Int) (w : World) (h : StatsAt w sb m L zs) (hb : Bnd L) :
    Calls Tryz.prog 11 #[.pointer (some ⟨sb, 0, none⟩)] w fun e w' => e = .returned (.agg #[.int .i64 (sumBy isWhole L).1, .int .i64 (sumBy isWhole L).2]) ∧ Below w.heap.size w w' := by
  have h1 := h.below ((Below.refl w.heap.size w).alloc (Nat.le_refl _) (.cells #[.int .i64 0, .int .i64 0] 34))
  have hs := Lib.hid (sum_any sb m _ #[] isWhole L _ h1.cell0 h1.2.2 hb totclos_enters (totclos_pays _))
  clear h h1 hb
  go_enter Tryz.func11, Tryz.ntmps11
  go_wp2_with (go_at_call 32; fail)
  refine hs.out.mono ?_
  rintro e w1 ⟨rfl, hb1⟩
  have hd0 : w1.cell? ⟨w.heap.size, 0, none⟩ = some (.int .i64 0) := by rw [cell_of_row _ _ _ _ _ _ ((hb1.block w.heap.size (by simp)).trans (heap_alloc_new w _))]; rfl
  have hd1 : w1.cell? ⟨w.heap.size, 1, none⟩ = some (.int .i64 0) := by rw [cell_of_row _ _ _ _ _ _ ((hb1.block w.heap.size (by simp)).trans (heap_alloc_new w _))]; rfl
  have hf0 : w1.frozen? ⟨w.heap.size, 0, none⟩ = false := frozen_of_row _ _ _ _ _ ((hb1.block w.heap.size (by simp)).trans (heap_alloc_new w _))
  have hf1 : w1.frozen? ⟨w.heap.size, 1, none⟩ = false := frozen_of_row _ _ _ _ _ ((hb1.block w.heap.size (by simp)).trans (heap_alloc_new w _))
  have hbb := Lib.hid (((Below.refl w.heap.size w).alloc (Nat.le_refl _) (.cells #[.int .i64 0, .int .i64 0] 34)).trans (hb1.mono (by simp)))
  clear hb1
  obtain ⟨x, hx⟩ : ∃ x, x = (sumBy isWhole L).1 := ⟨_, rfl⟩
  obtain ⟨y, hy⟩ : ∃ x, x = (sumBy isWhole L).2 := ⟨_, rfl⟩
  rw [← hx, ← hy]
  have hx' := Lib.hid hx
  have hy' := Lib.hid hy
  clear hx hy hs
  go_wp2_with fail
  exact bodyPost_ret (v := .agg #[.int .i64 x, .int .i64 y]) (by simp [results, Tryz.results11, go_sem, hd0, hd1]) rfl ⟨by rw [hx'.out, hy'.out], (hbb.out.setCell (Nat.le_refl _) _).setCell (Nat.le_refl _) _⟩

theorem ofclos_enters : ∀ (args : Array Value) (w : World), Sem.run Tryz.prog (callFunc 55 args) w = Result.ok (Next.enter 55 args) w :=
  enters_of Tryz.func55 (by kernel_rfl) rfl
def ofPred (kind : Int) (name : ByteArray) (a b : Int) (k : Key) : Bool := k.2.1 == kind && (k.2.2.toList == name.toList && (decide (a ≤ k.1) && decide (k.1 ≤ b)))
set_option maxHeartbeats 800000 in
theorem ofclos_pays (b : Nat) (kind : Int) (name : ByteArray) (p q : Int) (w : World) (hlt : b + 3 < w.heap.size)
    (h0 : w.cell? ⟨b, 0, none⟩ = some (.int .i64 kind)) (h1 : w.cell? ⟨b + 1, 0, none⟩ = some (.string name)) (h2 : w.cell? ⟨b + 1 + 1, 0, none⟩ = some (.int .i64 p)) (h3 : w.cell? ⟨b + 1 + 1 + 1, 0, none⟩ = some (.int .i64 q)) :
    KeyPred 55 #[.pointer (some ⟨b, 0, none⟩), .pointer (some ⟨b + 1, 0, none⟩), .pointer (some ⟨b + 1 + 1, 0, none⟩), .pointer (some ⟨b + 1 + 1 + 1, 0, none⟩)] (ofPred kind name p q) w := fun W k1 k2 k3 hb => by
  show Calls Tryz.prog 55 #[.agg #[.int .i64 k1, .int .i64 k2, .string k3], .pointer (some ⟨b, 0, none⟩), .pointer (some ⟨b + 1, 0, none⟩), .pointer (some ⟨b + 1 + 1, 0, none⟩), .pointer (some ⟨b + 1 + 1 + 1, 0, none⟩)] W _
  have hb2 : ∀ o, Below w.heap.size w (W.alloc o) := fun o => hb.alloc hb.size o
  have g0 : ∀ o, (W.alloc o).cell? ⟨b, 0, none⟩ = some (.int .i64 kind) := fun o => ((hb2 o).cell (p := ⟨b, 0, none⟩) (by show b < _; omega)).trans h0
  have g1 : ∀ o, (W.alloc o).cell? ⟨b + 1, 0, none⟩ = some (.string name) := fun o => ((hb2 o).cell (p := ⟨b + 1, 0, none⟩) (by show b + 1 < _; omega)).trans h1
  have g2 : ∀ o, (W.alloc o).cell? ⟨b + 1 + 1, 0, none⟩ = some (.int .i64 p) := fun o => ((hb2 o).cell (p := ⟨b + 1 + 1, 0, none⟩) (by show b + 1 + 1 < _; omega)).trans h2
  have g3 : ∀ o, (W.alloc o).cell? ⟨b + 1 + 1 + 1, 0, none⟩ = some (.int .i64 q) := fun o => ((hb2 o).cell (p := ⟨b + 1 + 1 + 1, 0, none⟩) (by show b + 1 + 1 + 1 < _; omega)).trans h3
  clear h0 h1 h2 h3 hb2 hb hlt
  go_enter Tryz.func55, Tryz.ntmps55
  go_wp2_with fail
  all_goals
    go_ret
    refine ⟨ret_bool ?_, (Below.refl _ _).alloc (Nat.le_refl _) _⟩
    first
      | (simp [ofPred, *]; done)
      | (simp [ofPred, *]; omega)

def zeroCnt (kind : Int) (c : Cnt) : Cnt := if kind = 0 then (0, 0) else c
set_option maxHeartbeats 800000 in
theorem of_any (sb m : Nat) (L : List (Key × Cnt)) (zs : List Int) (kind : Int) (name : ByteArray) (p q : Int) (w : World) (h : StatsAt w sb m L zs) (hb : Bnd L) :
    Calls Tryz.prog 28 #[.pointer (some ⟨sb, 0, none⟩), .int .i64 kind, .string name, .int .i64 p, .int .i64 q] w fun e w' =>
      e = .returned (.agg #[.int .i64 (zeroCnt kind (sumBy (ofPred kind name p q) L)).1, .int .i64 (zeroCnt kind (sumBy (ofPred kind name p q) L)).2]) ∧ Below w.heap.size w w' := by
  obtain ⟨W, hW⟩ : ∃ W, W = ((((w.alloc (.cells #[.int .i64 kind] 3)).alloc (.cells #[.string name] 9)).alloc (.cells #[.int .i64 p] 3)).alloc (.cells #[.int .i64 q] 3)).alloc (.cells #[.int .i64 0, .int .i64 0] 34) := ⟨_, rfl⟩
  have hbW : Below w.heap.size w W := by
    rw [hW]
    exact (((((Below.refl _ w).alloc (Nat.le_refl _) _).alloc (by simp) _).alloc (by simp <;> omega) _).alloc (by simp <;> omega) _).alloc (by simp <;> omega) _
  have hWs : W.heap.size = w.heap.size + 5 := by rw [hW]; simp
  by_cases h0 : kind = 0
  · subst h0
    have hbW' := Lib.hid hbW
    have hW' := Lib.hid hW
    clear hbW hW h hb hWs
    go_enter Tryz.func28, Tryz.ntmps28
    go_wp2_with fail
    refine bodyPost_ret (v := .agg #[.int .i64 0, .int .i64 0]) (by simp [results, Tryz.results28, go_sem]) rfl ⟨rfl, ?_⟩
    exact (((((Below.refl _ w).alloc (Nat.le_refl _) _).alloc (by simp) _).alloc (by simp <;> omega) _).alloc (by simp <;> omega) _).alloc (by simp <;> omega) _
  · have hk : (kind == 0) = false := beq_eq_false_iff_ne.2 h0
    have hz : zeroCnt kind (sumBy (ofPred kind name p q) L) = sumBy (ofPred kind name p q) L := by rw [zeroCnt, if_neg h0]
    rw [hz]
    have b0 : W.heap[w.heap.size]? = some (.cells #[.int .i64 kind] 3 (0, 0)) := by
      rw [hW, heap_alloc_old _ _ (by simp <;> omega), heap_alloc_old _ _ (by simp <;> omega), heap_alloc_old _ _ (by simp <;> omega), heap_alloc_old _ _ (by simp)]; exact heap_alloc_new _ _
    have b1 : W.heap[w.heap.size + 1]? = some (.cells #[.string name] 9 (0, 0)) := by
      rw [hW, heap_alloc_old _ _ (by simp <;> omega), heap_alloc_old _ _ (by simp <;> omega), heap_alloc_old _ _ (by simp)]
      have := heap_alloc_new (w.alloc (.cells #[.int .i64 kind] 3)) (.cells #[.string name] 9); simpa using this
    have b2 : W.heap[w.heap.size + 1 + 1]? = some (.cells #[.int .i64 p] 3 (0, 0)) := by
      rw [hW, heap_alloc_old _ _ (by simp <;> omega), heap_alloc_old _ _ (by simp)]
      have := heap_alloc_new ((w.alloc (.cells #[.int .i64 kind] 3)).alloc (.cells #[.string name] 9)) (.cells #[.int .i64 p] 3); simpa using this
    have b3 : W.heap[w.heap.size + 1 + 1 + 1]? = some (.cells #[.int .i64 q] 3 (0, 0)) := by
      rw [hW, heap_alloc_old _ _ (by simp)]
      have := heap_alloc_new (((w.alloc (.cells #[.int .i64 kind] 3)).alloc (.cells #[.string name] 9)).alloc (.cells #[.int .i64 p] 3)) (.cells #[.int .i64 q] 3); simpa using this
    have b4 : W.heap[w.heap.size + 1 + 1 + 1 + 1]? = some (.cells #[.int .i64 0, .int .i64 0] 34 (0, 0)) := by
      rw [hW]
      have := heap_alloc_new ((((w.alloc (.cells #[.int .i64 kind] 3)).alloc (.cells #[.string name] 9)).alloc (.cells #[.int .i64 p] 3)).alloc (.cells #[.int .i64 q] 3)) (.cells #[.int .i64 0, .int .i64 0] 34); simpa using this
    have hp := ofclos_pays w.heap.size kind name p q W (by omega) (by rw [cell_of_row _ _ _ _ _ _ b0]; rfl) (by rw [cell_of_row _ _ _ _ _ _ b1]; rfl) (by rw [cell_of_row _ _ _ _ _ _ b2]; rfl) (by rw [cell_of_row _ _ _ _ _ _ b3]; rfl)
    have h1 := h.below hbW
    have hs := sum_any sb m _ _ (ofPred kind name p q) L W h1.cell0 h1.2.2 hb ofclos_enters hp
    have b4' := Lib.hid b4
    have hWs' := Lib.hid hWs
    have hbW' := Lib.hid hbW
    clear h0 hz hp h1 h hb b0 b1 b2 b3 b4 hWs hbW
    obtain ⟨x, hx⟩ : ∃ x, x = (sumBy (ofPred kind name p q) L).1 := ⟨_, rfl⟩
    obtain ⟨y, hy⟩ : ∃ x, x = (sumBy (ofPred kind name p q) L).2 := ⟨_, rfl⟩
    rw [← hx, ← hy] at hs
    rw [← hx, ← hy]
    clear hx hy
    rw [hW] at hs
    have hs' := Lib.hid hs
    have hW' := Lib.hid hW
    clear hs hW
    go_enter Tryz.func28, Tryz.ntmps28
    go_wp2_with (go_at_call 32; fail)
    refine hs'.out.mono ?_
    rintro e w1 ⟨rfl, hb1⟩
    rw [← hW'.out] at hb1
    have hbl : w1.heap[w.heap.size + 1 + 1 + 1 + 1]? = some (.cells #[.int .i64 0, .int .i64 0] 34 (0, 0)) := (hb1.block _ (by have := hWs'.out; omega)).trans b4'.out
    have hd0 : w1.cell? ⟨w.heap.size + 1 + 1 + 1 + 1, 0, none⟩ = some (.int .i64 0) := by rw [cell_of_row _ _ _ _ _ _ hbl]; rfl
    have hd1 : w1.cell? ⟨w.heap.size + 1 + 1 + 1 + 1, 1, none⟩ = some (.int .i64 0) := by rw [cell_of_row _ _ _ _ _ _ hbl]; rfl
    have hf0 : w1.frozen? ⟨w.heap.size + 1 + 1 + 1 + 1, 0, none⟩ = false := frozen_of_row _ _ _ _ _ hbl
    have hf1 : w1.frozen? ⟨w.heap.size + 1 + 1 + 1 + 1, 1, none⟩ = false := frozen_of_row _ _ _ _ _ hbl
    have hbb := Lib.hid (hbW'.out.trans (hb1.mono hbW'.out.size))
    clear hb1 hbl
    go_wp2_with fail
    exact bodyPost_ret (v := .agg #[.int .i64 x, .int .i64 y]) (by simp [results, Tryz.results28, go_sem, hd0, hd1]) rfl ⟨rfl, (hbb.out.setCell (by simp <;> omega) _).setCell (by simp <;> omega) _⟩
end Go.Proofs.YtlemadbmlnjhpaaGreatDoor
