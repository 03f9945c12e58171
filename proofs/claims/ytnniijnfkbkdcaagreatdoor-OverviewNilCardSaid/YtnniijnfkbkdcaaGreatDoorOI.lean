/- A range over a function that yields nothing; what the walk of OverviewNil keeps. -/
import Derived.Test.YtnniijnfkbkdcaaGreatDoorOH
import Derived.RangeFuncGives
import Derived.Sort.MapsRangeIn
import Derived.OwnWalkIn
import Derived.TacticsInMore
import Derived.RegionIn
import Derived.LoopNIn
import Derived.LoopIn
namespace Go.Proofs.YtnniijnfkbkdcaaGreatDoor
open Go Go.RowKit Go.Proofs
set_option linter.unusedSimpArgs false
set_option linter.unusedVariables false

theorem put_grown (W : World) (l : Nat) (o : Obj) : W.grownBy (W.putObj l o) (some l) :=
  ⟨rfl, rfl, rfl, by simp [World.putObj], fun i _ hi => World.putObj_heap_other (fun e => hi (by rw [e]))⟩
theorem wp_range_none {P : Program} {gop : Operand} {ps : Array Tmp} {assign body : Code} {Q : Exit → Act → World → Prop} {a : Act} {w : World} (g : FuncId) (lb : Array Value) (hg : a.eval gop = .func (.func g) #[] lb)
    (eg : ∀ args w, (callFunc g args).run P w = .ok (.enter g args) w) (hc : ∀ (y : Value) (W : World), Below w.heap.size w W → Calls P g (#[y] ++ lb) W fun e W' => e = .returned (.tuple #[]) ∧ W = W')
    (h : ∀ D W, w.heap.size ≤ D → Below w.heap.size w W → W.heap[D]? = some (.deferred (some [])) → Q .normal { a with defers := { target := .collected D, args := #[] } :: a.defers } W) :
    (Code.rangeFunc gop ps assign body).wp P Q a w := by
  refine (wpIn_wide (n := 2)).1 ?_
  refine wpIn_rangeFunc ?_
  intro fn _
  obtain ⟨W1, hW1⟩ : ∃ W1, W1 = (w.alloc (.deferred (some []))).alloc (.loop { state := .ready, pending := none, fn := fn, tmps := a.tmps, params := ps, assign := assign, body := body, defers := w.heap.size }) := ⟨_, rfl⟩
  have hb1 : Below w.heap.size w W1 := by rw [hW1]; exact ((Below.refl _ w).alloc (Nat.le_refl _) _).alloc (by simp) _
  have hL : W1.heap[w.heap.size + 1]? = some (.loop { state := .ready, pending := none, fn := fn, tmps := a.tmps, params := ps, assign := assign, body := body, defers := w.heap.size }) := by rw [hW1]; exact heap_alloc2_new _ _ _
  have hK : W1.heap[w.heap.size]? = some (.deferred (some [])) := by rw [hW1]; exact heap_alloc2_old _ _ _
  refine ⟨w.heap.size + 1, [{ target := .collected w.heap.size, args := #[] }], W1, { target := .fn (.func g) lb, args := #[.func (.yield (w.heap.size + 1)) #[] #[]] }, W1, g, #[.func (.yield (w.heap.size + 1)) #[] #[]] ++ lb, W1, ?_, ?_, ?_, ?_, (fun h => by cases h), ?_⟩
  · rw [hW1]; exact run_enterLoop_outer _ _ _ _ _
  · simp only [rangeCall, resolve, hg]
    simp [Deferred.ofValue, Act.eval, Sem.run_pure, go_sem]
  · intro f' hf'; exact trivial
  · simp [invoke, go_sem, eg]
  · refine ((callsIn_wide).2 (hc _ _ hb1)).mono ?_
    rintro e W2 ⟨rfl, rfl⟩
    refine ⟨none, _, run_endLoop hL (by simp), ?_⟩
    exact h w.heap.size _ (Nat.le_refl _) (hb1.grown (put_grown _ _ _) hb1.size (fun k e => by cases e; omega)) ((World.putObj_heap_other (by omega)).trans hK)
end Go.Proofs.YtnniijnfkbkdcaaGreatDoor
