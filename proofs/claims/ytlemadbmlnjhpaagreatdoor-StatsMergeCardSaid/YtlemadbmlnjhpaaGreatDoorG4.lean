/- The map of counts: its keys are structs; what a look-up, a store and a step of a range do to it. -/
/- The contracts of stats: New, sum, Total, Of. -/
/- The contracts of stats: New, the closure of Add, Add; date's Day. -/
import Derived.Test.YtlemadbmlnjhpaaGreatDoorG3
import Derived.Laws.StructEq
import Derived.ChangeMaps
import Derived.Maps.RangeRun
import Derived.Deep.LoopGhost
import Derived.Maps.RangeWalk
import Derived.Deep.RegionHeld3
namespace Go.Proofs.YtlemadbmlnjhpaaGreatDoor
open Go Go.RowKit Go.Proofs
open Go.ChangeMaps (setBlock)
set_option linter.unusedSimpArgs false
set_option linter.unusedVariables false

abbrev Key := Int × Int × ByteArray
abbrev Cnt := Int × Int
def keyV (k : Key) : Value := .agg #[.int .i64 k.1, .int .i64 k.2.1, .string k.2.2]
def cntV (c : Cnt) : Value := .agg #[.int .i64 c.1, .int .i64 c.2]
def encP (p : Key × Cnt) : Value × Value := (keyV p.1, cntV p.2)
def keyEq (a b : Key) : Bool := a.1 == b.1 && (a.2.1 == b.2.1 && a.2.2.toList == b.2.2.toList)
theorem keyEq_iff (a b : Key) : keyEq a b = true ↔ a = b := by
  obtain ⟨a1, a2, a3⟩ := a
  obtain ⟨b1, b2, b3⟩ := b
  simp only [keyEq, Bool.and_eq_true, beq_iff_eq, Prod.mk.injEq]
  constructor
  · rintro ⟨rfl, rfl, h⟩
    exact ⟨rfl, rfl, bytes_beq_true (by simpa using h)⟩
  · rintro ⟨rfl, rfl, rfl⟩; exact ⟨rfl, rfl, rfl⟩

theorem Tryz.check_key (em : Bool) (k : Key) (w : World) : (Instr.checkKey em 10000 64 (keyV k)).run Tryz.prog w = .ok () w := by kernel_rfl
theorem Tryz.equal_key (k k' : Key) (w : World) : (Op.equal 64 (keyV k) (keyV k')).run Tryz.prog w = .ok (keyEq k k') w := by
  unfold keyV keyEq
  simp [Op.equal, Op.maxDepth, go_sem]
  by_cases h1 : k.1 = k'.1
  · by_cases h2 : k.2.1 = k'.2.1
    · by_cases h3 : k.2.2.toList = k'.2.2.toList <;> simp [h1, h2, h3]
    · simp [h1, h2]
  · simp [h1]
theorem Tryz.zero_cnt (w : World) : (zeroValue 34).run Tryz.prog w = .ok (cntV (0, 0)) w := by kernel_rfl

/-- where a key stands first -/
def findL (k : Key) : List (Key × Cnt) → Nat → Option (Nat × Cnt)
  | [], _ => none
  | p :: r, i => if keyEq k p.1 then some (i, p.2) else findL k r (i + 1)
def putL (k : Key) (c : Cnt) : List (Key × Cnt) → List (Key × Cnt)
  | [] => [(k, c)]
  | p :: r => if keyEq k p.1 then (k, c) :: r else p :: putL k c r
def getL (k : Key) (L : List (Key × Cnt)) : Cnt := ((findL k L 0).map Prod.snd).getD (0, 0)

theorem Tryz.run_findAsking (k : Key) (w : World) : ∀ (es : List MapEntry) (L : List (Key × Cnt)) (i : Nat), es.map (fun e => (e.key, e.val)) = L.map encP →
    (Instr.findAsking 64 (keyV k) es i).run Tryz.prog w = .ok ((findL k L i).map fun p => (p.1, cntV p.2)) w
  | [], [], i, _ => by simp [Instr.findAsking, findL, go_sem]
  | [], p :: r, i, h => by simp at h
  | e :: es, [], i, h => by simp at h
  | e :: es, p :: r, i, h => by
    simp only [List.map_cons, List.cons.injEq] at h
    obtain ⟨h1, h2⟩ := h
    have hk : e.key = keyV p.1 := congrArg Prod.fst h1
    have hv : e.val = cntV p.2 := congrArg Prod.snd h1
    have ih := Tryz.run_findAsking k w es r (i + 1) h2
    unfold Instr.findAsking
    simp only [Sem.run_bind, hk, Tryz.equal_key, Result.andThen]
    unfold findL
    by_cases hq : keyEq k p.1 = true
    · simp [hq, hv, Sem.run_pure]
    · simp only [hq, Bool.false_eq_true, if_false]
      exact ih
theorem Tryz.run_findKey (k : Key) (w : World) (es : List MapEntry) (L : List (Key × Cnt)) (h : es.map (fun e => (e.key, e.val)) = L.map encP) :
    (Instr.findKey 64 (keyV k) es).run Tryz.prog w = .ok ((findL k L 0).map fun p => (p.1, cntV p.2)) w := by
  unfold Instr.findKey
  simp only [Sem.run_bind]
  cases es with
  | nil =>
    cases L with
    | nil => simp [Instr.findNow, findL, go_sem, Tryz.underlying64]
    | cons p r => simp at h
  | cons e es =>
    have hr := Tryz.run_findAsking k w (e :: es) L 0 h
    cases L with
    | nil => simp at h
    | cons p r =>
      have hk : e.key = keyV p.1 := by simp only [List.map_cons, List.cons.injEq] at h; exact congrArg Prod.fst h.1
      have hn : ∀ fs, Instr.findNow (.struct fs) (keyV k) (e :: es) 0 = none := fun fs => by
        unfold Instr.findNow; rw [hk]; rfl
      rw [run_underlying Tryz.underlying64]
      simp only [Result.andThen, hn]
      exact hr

def MapIs (w : World) (m : Nat) (L : List (Key × Cnt)) : Prop :=
  ∃ (es : Array MapEntry) (clock : Nat), w.heap[m]? = some (.map es clock) ∧ es.toList.map (fun e => (e.key, e.val)) = L.map encP ∧ es.toList.Pairwise (fun a b => a.born < b.born) ∧ ∀ e ∈ es.toList, e.born < clock
theorem MapIs.block {w w' : World} {m : Nat} {L : List (Key × Cnt)} (h : MapIs w m L) (hb : w'.heap[m]? = w.heap[m]?) : MapIs w' m L := by
  obtain ⟨es, clock, h1, h2⟩ := h
  exact ⟨es, clock, hb.trans h1, h2⟩
theorem MapIs.below {w w' : World} {B m : Nat} {L : List (Key × Cnt)} (h : MapIs w m L) (hb : Below B w w') (hm : m < B) : MapIs w' m L := h.block (hb.block m hm)
theorem MapIs.lt {w : World} {m : Nat} {L : List (Key × Cnt)} (h : MapIs w m L) : m < w.heap.size := by
  obtain ⟨es, clock, h1, _⟩ := h
  exact (Array.getElem?_eq_some_iff.1 h1).1
theorem MapIs.made (w : World) : MapIs (w.alloc (.map #[] 0)) w.heap.size [] :=
  ⟨#[], 0, heap_alloc_new w _, rfl, by simp, by simp⟩

theorem MapIs.lookup {w : World} {m : Nat} {L : List (Key × Cnt)} (h : MapIs w m L) (k : Key) :
    (Instr.lookup 70 (.map (some m)) (keyV k) false).run Tryz.prog w = .ok (cntV (getL k L)) w := by
  obtain ⟨es, clock, h1, h2, _⟩ := h
  have hf := Tryz.run_findKey k w es.toList L h2
  have hc := Tryz.check_key es.isEmpty k w
  unfold getL
  cases hq : findL k L 0 with
  | none =>
    rw [hq] at hf
    simp [Instr.lookup, run_underlying Tryz.underlying70, MapKept.run_getObj_map h1, hc, hf, Result.andThen, Sem.run_pure]
    rfl
  | some p =>
    rw [hq] at hf
    simp [Instr.lookup, run_underlying Tryz.underlying70, MapKept.run_getObj_map h1, hc, hf, Result.andThen, Sem.run_pure]

theorem findL_none {k : Key} : ∀ {L : List (Key × Cnt)} {i : Nat} (c : Cnt), findL k L i = none → putL k c L = L ++ [(k, c)]
  | [], _, _, _ => rfl
  | p :: r, i, c, h => by
    unfold findL at h
    by_cases hq : keyEq k p.1 = true
    · rw [if_pos hq] at h; cases h
    · rw [if_neg hq] at h
      unfold putL
      rw [if_neg hq, findL_none c h]; rfl
theorem findL_some {k : Key} : ∀ {L : List (Key × Cnt)} {i j : Nat} {d : Cnt} (c : Cnt), findL k L i = some (j, d) → i ≤ j ∧ (∃ p, L[j - i]? = some p ∧ p.1 = k) ∧ putL k c L = L.set (j - i) (k, c)
  | [], _, _, _, _, h => by cases h
  | p :: r, i, j, d, c, h => by
    unfold findL at h
    by_cases hq : keyEq k p.1 = true
    · rw [if_pos hq] at h
      obtain ⟨rfl, rfl⟩ := Prod.mk.inj (Option.some.inj h)
      unfold putL
      rw [if_pos hq, Nat.sub_self]
      exact ⟨Nat.le_refl _, ⟨p, rfl, ((keyEq_iff _ _).1 hq).symm⟩, rfl⟩
    · rw [if_neg hq] at h
      obtain ⟨h1, ⟨q, h2, h3⟩, h4⟩ := findL_some c h
      have e : j - i = (j - (i + 1)) + 1 := by omega
      unfold putL
      rw [if_neg hq, h4, e]
      exact ⟨by omega, ⟨q, by simpa using h2, h3⟩, rfl⟩
theorem same_key (k : Key) : Instr.sameBits 10000 (keyV k) (keyV k) = true := by
  unfold keyV
  simp [Instr.sameBits, beq_toListBytes]

theorem MapIs.update {w : World} {m : Nat} {L : List (Key × Cnt)} (h : MapIs w m L) (k : Key) (c : Cnt) :
    ∃ w', (Instr.mapUpdate 70 (.map (some m)) (keyV k) (cntV c)).run Tryz.prog w = .ok () w' ∧ MapIs w' m (putL k c L) ∧ w.grownBy w' (some m) := by
  obtain ⟨es, clock, h1, h2, h3, h4⟩ := h
  have hf := Tryz.run_findKey k w es.toList L h2
  have hc := Tryz.check_key false k w
  have hgrow : ∀ o, w.grownBy (setBlock w m o) (some m) := fun o =>
    ⟨rfl, rfl, rfl, by simp [setBlock], fun i _ hi => by
      show (w.heap.setIfInBounds m o)[i]? = _
      rw [Array.getElem?_setIfInBounds]
      rw [if_neg (fun e => hi (by rw [e]))]⟩
  have hset : ∀ o, (setBlock w m o).heap[m]? = some o := fun o => by
    show (w.heap.setIfInBounds m o)[m]? = _
    rw [Array.getElem?_setIfInBounds, if_pos rfl, if_pos (Array.getElem?_eq_some_iff.1 h1).1]
  cases hq : findL k L 0 with
  | none =>
    rw [hq] at hf
    refine ⟨setBlock w m (.map (es.push { key := keyV k, val := cntV c, born := clock }) (clock + 1)), ?_, ⟨_, _, hset _, ?_, ?_, ?_⟩, hgrow _⟩
    · simp [Instr.mapUpdate, run_underlying Tryz.underlying70, MapKept.run_getObj_map h1, hc, hf, MapKept.run_setObj_map _ h1, Result.andThen, setBlock]
    · rw [findL_none c hq]; simp [h2, encP]
    · rw [Array.toList_push, List.pairwise_append]
      exact ⟨h3, by simp, fun a ha b hb => by simp at hb; subst hb; exact h4 a ha⟩
    · intro e he
      rw [Array.toList_push, List.mem_append] at he
      rcases he with he | he
      · have := h4 e he; omega
      · simp at he; subst he; simp
  | some p =>
    obtain ⟨j, d⟩ := p
    rw [hq] at hf
    obtain ⟨_, ⟨q, hq1, hq2⟩, hq3⟩ := findL_some c hq
    simp only [Nat.sub_zero] at hq1 hq3
    have hej : ∃ e, es[j]? = some e ∧ e.key = keyV k := by
      have e1 : (es.toList.map (fun e => (e.key, e.val)))[j]? = some (encP q) := by rw [h2, List.getElem?_map, hq1]; rfl
      rw [List.getElem?_map] at e1
      cases he : es.toList[j]? with
      | none => rw [he] at e1; cases e1
      | some e =>
        rw [he] at e1
        refine ⟨e, by simpa using he, ?_⟩
        have := congrArg Prod.fst (Option.some.inj e1)
        rw [← hq2]; exact this
    obtain ⟨e, he1, he2⟩ := hej
    have hstay : (Instr.keyThatStays (keyV k) (keyV k)).run Tryz.prog w = .ok (keyV k) w := by
      unfold Instr.keyThatStays; rw [same_key]; simp [Sem.run_pure]
    refine ⟨setBlock w m (.map (es.modify j fun e => { e with key := keyV k, val := cntV c }) clock), ?_, ⟨_, _, hset _, ?_, ?_, ?_⟩, hgrow _⟩
    · simp [Instr.mapUpdate, run_underlying Tryz.underlying70, MapKept.run_getObj_map h1, hc, hf, he1, he2, hstay, MapKept.run_setObj_map _ h1, Result.andThen, setBlock]
    · rw [Array.toList_modify, hq3]
      have h5 : es.toList[j]? = some e := by simpa using he1
      apply List.ext_getElem?
      intro i
      rw [List.getElem?_map, List.getElem?_modify, List.getElem?_map, List.getElem?_set]
      by_cases hij : j = i
      · subst hij
        have hjl : j < L.length := (List.getElem?_eq_some_iff.1 hq1).1
        rw [h5, if_pos rfl, if_pos hjl]; simp [encP]
      · have e2 : (es.toList.map (fun e => (e.key, e.val)))[i]? = (L.map encP)[i]? := by rw [h2]
        rw [List.getElem?_map, List.getElem?_map] at e2
        rw [if_neg hij, ← e2]
        simp [hij]
    · rw [Array.toList_modify]
      have : ((es.toList.modify j fun e => { e with key := keyV k, val := cntV c }).map (·.born)) = es.toList.map (·.born) := by
        apply List.ext_getElem?
        intro i
        rw [List.getElem?_map, List.getElem?_modify, List.getElem?_map]
        cases es.toList[i]? with
        | none => rfl
        | some x => by_cases hij : j = i <;> simp [hij]
      have h6 : (es.toList.map (·.born)).Pairwise (· < ·) := by rw [List.pairwise_map]; exact h3
      rw [← this, List.pairwise_map] at h6
      exact h6
    · intro x hx
      rw [Array.toList_modify] at hx
      obtain ⟨i, hi⟩ := List.mem_iff_getElem?.1 hx
      rw [List.getElem?_modify] at hi
      cases hy : es.toList[i]? with
      | none => rw [hy] at hi; cases hi
      | some y =>
        rw [hy] at hi
        have hb := h4 y (List.mem_of_getElem? hy)
        by_cases hij : j = i
        · simp [hij] at hi; subst hi; exact hb
        · simp [hij] at hi; subst hi; exact hb

def Ranging (w : World) (m r : Nat) (L todo : List (Key × Cnt)) : Prop :=
  ∃ (es : Array MapEntry) (clock since c0 : Nat) (seen : Array Nat), w.heap[r]? = some (.mapIter (some m) since seen c0) ∧ w.heap[m]? = some (.map es clock) ∧
    es.toList.map (fun e => (e.key, e.val)) = L.map encP ∧ es.toList.Pairwise (fun a b => a.born < b.born) ∧ (∀ e ∈ es.toList, e.born < clock) ∧ (∀ e ∈ es.toList, e.born < since) ∧ since ≤ c0 ∧ since ≤ clock ∧
    (leftOf es seen).toList.map (fun e => (e.key, e.val)) = todo.map encP
theorem Ranging.map {w : World} {m r : Nat} {L todo : List (Key × Cnt)} (h : Ranging w m r L todo) : MapIs w m L := by
  obtain ⟨es, clock, since, c0, seen, h1, h2, h3, h4, h5, _⟩ := h
  exact ⟨es, clock, h2, h3, h4, h5⟩
theorem Ranging.block {w w' : World} {m r : Nat} {L todo : List (Key × Cnt)} (h : Ranging w m r L todo) (hm : w'.heap[m]? = w.heap[m]?) (hr : w'.heap[r]? = w.heap[r]?) : Ranging w' m r L todo := by
  obtain ⟨es, clock, since, c0, seen, h1, h2, h3⟩ := h
  exact ⟨es, clock, since, c0, seen, hr.trans h1, hm.trans h2, h3⟩
theorem Ranging.lt {w : World} {m r : Nat} {L todo : List (Key × Cnt)} (h : Ranging w m r L todo) : m < w.heap.size ∧ r < w.heap.size ∧ m ≠ r := by
  obtain ⟨es, clock, since, c0, seen, h1, h2, _⟩ := h
  exact ⟨(Array.getElem?_eq_some_iff.1 h2).1, (Array.getElem?_eq_some_iff.1 h1).1, fun e => by subst e; rw [h1] at h2; cases h2⟩

theorem MapIs.range {w : World} {m : Nat} {L : List (Key × Cnt)} (h : MapIs w m L) :
    ∃ o, (Instr.range 70 (.map (some m))).run Tryz.prog w = .ok (.pointer (some ⟨w.heap.size, 0, none⟩)) (w.alloc o) ∧ Ranging (w.alloc o) m w.heap.size L L := by
  obtain ⟨es, clock, h1, h2, h3, h4⟩ := h
  refine ⟨.mapIter (some m) clock #[] clock, ?_, es, clock, clock, clock, #[], heap_alloc_new w _, ?_, h2, h3, h4, h4, Nat.le_refl _, Nat.le_refl _, ?_⟩
  · simp [Instr.range, run_underlying Tryz.underlying70, MapKept.run_getObj_map h1]
  · rw [heap_alloc_old w _ (Array.getElem?_eq_some_iff.1 h1).1]; exact h1
  · have e : (leftOf es #[]).toList = es.toList := by unfold leftOf; simp
    rw [e]; exact h2

theorem filter_erase : ∀ (l : List MapEntry) (i : Nat) (e : MapEntry), l.Pairwise (fun a b => a.born < b.born) → l[i]? = some e → l.filter (fun x => x.born != e.born) = l.eraseIdx i
  | [], _, _, _, h => by cases h
  | x :: t, 0, e, hp, h => by
    obtain ⟨h1, h2⟩ := List.pairwise_cons.1 hp
    simp only [List.getElem?_cons_zero, Option.some.injEq] at h
    subst h
    rw [List.filter_cons_of_neg (by simp), List.eraseIdx_cons_zero]
    exact List.filter_eq_self.2 fun y hy => by have := h1 y hy; simp; omega
  | x :: t, i + 1, e, hp, h => by
    obtain ⟨h1, h2⟩ := List.pairwise_cons.1 hp
    simp only [List.getElem?_cons_succ] at h
    have hx := h1 e (List.mem_of_getElem? h)
    rw [List.filter_cons_of_pos (by simp; omega), List.eraseIdx_cons_succ, filter_erase t i e h2 h]
theorem map_eraseIdx' {α β : Type} (f : α → β) : ∀ (l : List α) (i : Nat), (l.map f).eraseIdx i = (l.eraseIdx i).map f
  | [], _ => rfl
  | _ :: _, 0 => rfl
  | x :: t, i + 1 => by simp [map_eraseIdx' f t i]
theorem perm_eraseIdx {α : Type} : ∀ (l : List α) (i : Nat) (x : α), l[i]? = some x → l.Perm (x :: l.eraseIdx i)
  | [], _, _, h => by cases h
  | y :: t, 0, x, h => by
    simp only [List.getElem?_cons_zero, Option.some.injEq] at h
    subst h; exact List.Perm.refl _
  | y :: t, i + 1, x, h => by
    simp only [List.getElem?_cons_succ] at h
    rw [List.eraseIdx_cons_succ]
    exact ((perm_eraseIdx t i x h).cons y).trans (List.Perm.swap x y _)
theorem leftOf_push (es : Array MapEntry) (seen : Array Nat) (b : Nat) : (leftOf es (seen.push b)).toList = (leftOf es seen).toList.filter (fun x => x.born != b) := by
  unfold leftOf
  simp only [Array.toList_filter, List.filter_filter]
  congr 1
  funext x
  rw [Bool.eq_iff_iff]
  simp
  constructor
  · rintro ⟨h1, h2⟩; exact ⟨h2, h1⟩
  · rintro ⟨h1, h2⟩; exact ⟨h2, h1⟩

theorem Ranging.next {w : World} {m r : Nat} {L todo : List (Key × Cnt)} (h : Ranging w m r L todo) (ty : TypeId) :
    (todo = [] ∧ (Instr.next (.pointer (some ⟨r, 0, none⟩)) false ty).run Tryz.prog w = .ok (.tuple #[.bool false]) w) ∨
    ∃ (p : Key × Cnt) (todo' : List (Key × Cnt)) (w1 : World), todo.Perm (p :: todo') ∧ (Instr.next (.pointer (some ⟨r, 0, none⟩)) false ty).run Tryz.prog w = .ok (.tuple #[.bool true, keyV p.1, cntV p.2]) w1 ∧
      Ranging w1 m r L todo' ∧ w.grownBy w1 (some r) ∧ w1.heap.size = w.heap.size ∧ (Instr.entry (.pointer (some ⟨r, 0, none⟩))).run Tryz.prog w1 = .ok (.tuple #[keyV p.1, cntV p.2]) w1 := by
  have hlt := h.lt
  obtain ⟨es, clock, since, c0, seen, h1, h2, h3, h4, h5, h6, h7, h8, h9⟩ := h
  rcases run_next_at (P := Tryz.prog) w ty r m since c0 seen es clock h1 h2 h6 h7 with ⟨h0, hrun⟩ | ⟨e, he, w1, hw1, hrun⟩
  · left
    refine ⟨?_, hrun⟩
    have : (leftOf es seen).toList = [] := by simpa [Array.size_eq_zero_iff] using h0
    rw [this] at h9
    simpa using h9.symm
  · right
    obtain ⟨i, hi⟩ := List.mem_iff_getElem?.1 he
    have hti : ∃ p, todo[i]? = some p ∧ (e.key, e.val) = encP p := by
      have e1 : ((leftOf es seen).toList.map (fun e => (e.key, e.val)))[i]? = (todo.map encP)[i]? := by rw [h9]
      rw [List.getElem?_map, List.getElem?_map, hi] at e1
      cases ht : todo[i]? with
      | none => rw [ht] at e1; cases e1
      | some p => rw [ht] at e1; exact ⟨p, rfl, Option.some.inj e1⟩
    obtain ⟨p, hp1, hp2⟩ := hti
    have hk : e.key = keyV p.1 := congrArg Prod.fst hp2
    have hv : e.val = cntV p.2 := congrArg Prod.snd hp2
    have hes : e ∈ es.toList := by unfold leftOf at he; simp at he; exact Array.mem_toList_iff.2 he.1
    have hnd : (es.toList.map (·.born)).Nodup := by
      rw [List.Nodup, List.pairwise_map]; exact h4.imp (fun h => by omega)
    have hsub : (leftOf es seen).toList.Pairwise (fun a b => a.born < b.born) := by
      unfold leftOf; rw [Array.toList_filter]; exact h4.filter _
    have hheap : ∀ k, k ≠ r → (setBlock w1 r (.mapIter (some m) since (seen.push e.born) clock)).heap[k]? = w.heap[k]? := fun k hk' => by
      show (w1.heap.setIfInBounds r _)[k]? = _
      rw [Array.getElem?_setIfInBounds, if_neg (fun h => hk' h.symm)]
      rcases hw1 with rfl | rfl <;> rfl
    have hhr : (setBlock w1 r (.mapIter (some m) since (seen.push e.born) clock)).heap[r]? = some (.mapIter (some m) since (seen.push e.born) clock) := by
      show (w1.heap.setIfInBounds r _)[r]? = _
      rw [Array.getElem?_setIfInBounds, if_pos rfl, if_pos (by rcases hw1 with rfl | rfl <;> exact hlt.2.1)]
    have hhm : (setBlock w1 r (.mapIter (some m) since (seen.push e.born) clock)).heap[m]? = some (.map es clock) := (hheap m hlt.2.2).trans h2
    refine ⟨p, todo.eraseIdx i, _, perm_eraseIdx _ _ _ hp1, by rw [← hk, ← hv]; exact hrun, ?_, ?_, ?_, ?_⟩
    · refine ⟨es, clock, since, clock, _, hhr, hhm, h3, h4, h5, h6, h8, h8, ?_⟩
      rw [leftOf_push, filter_erase _ i e hsub hi]
      have := congrArg (fun l => l.eraseIdx i) h9
      rw [map_eraseIdx', map_eraseIdx'] at this; exact this
    · refine ⟨?_, ?_, ?_, ?_, fun k _ hk' => hheap k (fun e => hk' (by rw [e]))⟩
      · rcases hw1 with rfl | rfl <;> rfl
      · rcases hw1 with rfl | rfl <;> rfl
      · rcases hw1 with rfl | rfl <;> rfl
      · show w.heap.size ≤ (w1.heap.setIfInBounds r _).size
        rw [Array.size_setIfInBounds]; rcases hw1 with rfl | rfl <;> exact Nat.le_refl _
    · show (w1.heap.setIfInBounds r _).size = _
      rw [Array.size_setIfInBounds]; rcases hw1 with rfl | rfl <;> rfl
    · rw [← hk, ← hv]
      exact run_entry_at _ r m since seen es clock e hhr hhm hes hnd

theorem wpList_range_map {w : World} {ops : Array Oper} {rest : List Oper} {o : Oper} {a : Act} {Q : Exit → Act → World → Prop}
    (hg : o.guard = none) (x : Operand) (hop : o.op = Op.range 70 x) {m : Nat} {L : List (Key × Cnt)} (hm : a.eval x = .map (some m)) (h : MapIs w m L)
    (hK : ∀ ob, Ranging (w.alloc ob) m w.heap.size L L → wpList Tryz.prog ops Q rest (a.put o.dst (.pointer (some ⟨w.heap.size, 0, none⟩))) (w.alloc ob)) :
    wpList Tryz.prog ops Q (o :: rest) a w := by
  refine wpList_plain hg fun K' hK' => ?_
  obtain ⟨ob, hrun, hr⟩ := h.range
  unfold Oper.wp
  simp [execOp, hop, hm, hrun, Result.andThen]
  exact hK' _ _ (hK ob hr)

theorem wpList_next_map {w : World} {ops : Array Oper} {rest : List Oper} {o : Oper} {a : Act} {Q : Exit → Act → World → Prop}
    (hg : o.guard = none) (it : Operand) (hop : o.op = Op.next it false) {m r : Nat} {L todo : List (Key × Cnt)} (hit : a.eval it = .pointer (some ⟨r, 0, none⟩)) (h : Ranging w m r L todo)
    (hDone : todo = [] → wpList Tryz.prog ops Q rest (a.put o.dst (.tuple #[.bool false])) w)
    (hMore : ∀ (k1 k2 : Int) (k3 : ByteArray) (c1 c2 : Int) (todo' : List (Key × Cnt)) (w1 : World), todo.Perm (((k1, k2, k3), (c1, c2)) :: todo') → Ranging w1 m r L todo' → w.grownBy w1 (some r) → w1.heap.size = w.heap.size →
      (Instr.entry (.pointer (some ⟨r, 0, none⟩))).run Tryz.prog w1 = .ok (.tuple #[.agg #[.int .i64 k1, .int .i64 k2, .string k3], .agg #[.int .i64 c1, .int .i64 c2]]) w1 →
      wpList Tryz.prog ops Q rest (a.put o.dst (.tuple #[.bool true, .agg #[.int .i64 k1, .int .i64 k2, .string k3], .agg #[.int .i64 c1, .int .i64 c2]])) w1) :
    wpList Tryz.prog ops Q (o :: rest) a w := by
  refine wpList_plain hg fun K' hK' => ?_
  unfold Oper.wp
  rcases h.next o.type with ⟨h0, hrun⟩ | ⟨⟨⟨k1, k2, k3⟩, ⟨c1, c2⟩⟩, todo', w1, hp, hrun, hr, hgr, hsz, hen⟩
  · simp [execOp, hop, hit, hrun, Result.andThen]
    exact hK' _ _ (hDone h0)
  · simp [execOp, hop, hit, hrun, Result.andThen]
    exact hK' _ _ (hMore k1 k2 k3 c1 c2 todo' w1 hp hr hgr hsz hen)
end Go.Proofs.YtlemadbmlnjhpaaGreatDoor
namespace Go.Proofs.YtlemadbmlnjhpaaGreatDoor
open Go Go.RowKit Go.Proofs
open Go.ChangeMaps (setBlock)
set_option linter.unusedSimpArgs false
set_option linter.unusedVariables false

/-- the sum of the counts of the keys for which p holds -/
def sumBy (p : Key → Bool) : List (Key × Cnt) → Cnt
  | [] => (0, 0)
  | q :: r => if p q.1 then (q.2.1 + (sumBy p r).1, q.2.2 + (sumBy p r).2) else sumBy p r
def Bnd (L : List (Key × Cnt)) : Prop := (∀ q ∈ L, 0 ≤ q.2.1 ∧ 0 ≤ q.2.2) ∧ (sumBy (fun _ => true) L).1 ≤ 1000000000000 ∧ (sumBy (fun _ => true) L).2 ≤ 1000000000000
theorem sumBy_perm (p : Key → Bool) {L M : List (Key × Cnt)} (h : L.Perm M) : sumBy p L = sumBy p M := by
  induction h with
  | nil => rfl
  | cons x _ ih => simp only [sumBy, ih]
  | swap x y l =>
    simp only [sumBy]
    by_cases h1 : p x.1 = true <;> by_cases h2 : p y.1 = true <;> simp [h1, h2] <;> omega
  | trans _ _ ih1 ih2 => rw [ih1, ih2]
theorem Bnd.perm {L M : List (Key × Cnt)} (h : Bnd L) (hp : L.Perm M) : Bnd M :=
  ⟨fun q hq => h.1 q (hp.mem_iff.2 hq), by rw [← sumBy_perm _ hp]; exact h.2.1, by rw [← sumBy_perm _ hp]; exact h.2.2⟩
theorem Bnd.tail {q : Key × Cnt} {L : List (Key × Cnt)} (h : Bnd (q :: L)) : Bnd L := by
  obtain ⟨h1, h2, h3⟩ := h
  have := h1 q (by simp)
  simp only [sumBy, if_true] at h2 h3
  exact ⟨fun x hx => h1 x (by simp [hx]), by omega, by omega⟩
theorem sumBy_bound (p : Key → Bool) : ∀ {L : List (Key × Cnt)}, (∀ q ∈ L, 0 ≤ q.2.1 ∧ 0 ≤ q.2.2) → 0 ≤ (sumBy p L).1 ∧ 0 ≤ (sumBy p L).2 ∧ (sumBy p L).1 ≤ (sumBy (fun _ => true) L).1 ∧ (sumBy p L).2 ≤ (sumBy (fun _ => true) L).2
  | [], _ => by simp [sumBy]
  | q :: r, h => by
    have hq := h q (by simp)
    have ih := sumBy_bound p (L := r) (fun x hx => h x (by simp [hx]))
    simp only [sumBy, if_true]
    split <;> (try simp only []) <;> omega

set_option maxHeartbeats 400000 in
theorem plus_any (a b c d : Int) (w : World) (h1 : 0 ≤ a ∧ a ≤ 1000000000000) (h2 : 0 ≤ b ∧ b ≤ 1000000000000) (h3 : 0 ≤ c ∧ c ≤ 1000000000000) (h4 : 0 ≤ d ∧ d ≤ 1000000000000) :
    Calls Tryz.prog 47 #[.agg #[.int .i64 a, .int .i64 b], .agg #[.int .i64 c, .int .i64 d]] w fun e w' =>
      e = .returned (.agg #[.int .i64 (a + c), .int .i64 (b + d)]) ∧ Below w.heap.size w w' := by
  obtain ⟨h1, h1'⟩ := h1
  obtain ⟨h2, h2'⟩ := h2
  obtain ⟨h3, h3'⟩ := h3
  obtain ⟨h4, h4'⟩ := h4
  go_enter Tryz.func47, Tryz.ntmps47
  go_wp2_with fail
  exact bodyPost_ret (v := .agg #[.int .i64 (a + c), .int .i64 (b + d)]) (by simp [results, Tryz.results47, go_sem]) rfl ⟨rfl, (((Below.refl _ _).alloc (Nat.le_refl _) _).alloc (by simp) _).alloc (by simp <;> omega) _⟩

/-- what a caller pays of the predicate that sum is handed -/
def KeyPred (g : Nat) (lb : Array Value) (p : Key → Bool) (w : World) : Prop :=
  ∀ (W : World) (k1 k2 : Int) (k3 : ByteArray), Below w.heap.size w W → Calls Tryz.prog g (#[.agg #[.int .i64 k1, .int .i64 k2, .string k3]] ++ lb) W fun e W' => e = .returned (.bool (p (k1, k2, k3))) ∧ Below W.heap.size W W'

set_option maxHeartbeats 1600000 in
theorem sum_any (sb m g : Nat) (lb : Array Value) (p : Key → Bool) (L : List (Key × Cnt)) (w : World) (hs : w.cell? ⟨sb, 0, none⟩ = some (.map (some m))) (hm : MapIs w m L) (hb : Bnd L)
    (eg : ∀ args w, (callFunc g args).run Tryz.prog w = .ok (.enter g args) w) (hp : KeyPred g lb p w) :
    Calls Tryz.prog 32 #[.pointer (some ⟨sb, 0, none⟩), .func (.func g) #[] lb] w fun e w' => e = .returned (.agg #[.int .i64 (sumBy p L).1, .int .i64 (sumBy p L).2]) ∧ Below w.heap.size w w' := by
  have hp' := Lib.hid hp
  have hb' := Lib.hid hb
  clear hp hb
  have hsb := World.block_lt_of_cell? w _ hs
  have hmlt := hm.lt
  have hs2 : ∀ o1 o2, ((w.alloc o1).alloc o2).cell? ⟨sb, 0, none⟩ = some (.map (some m)) := fun o1 o2 => ((((Below.refl w.heap.size w).alloc (Nat.le_refl _) o1).alloc (by simp) o2).cell (p := ⟨sb, 0, none⟩) hsb).trans hs
  have hm' : MapIs ((w.alloc (.cells #[.int .i64 0, .int .i64 0] 34)).alloc (.cells #[.int .i64 0, .int .i64 0] 34)) m L := hm.below (((Below.refl w.heap.size w).alloc (Nat.le_refl _) _).alloc (by simp) _) hm.lt
  go_enter Tryz.func32, Tryz.ntmps32
  go_wp2_with (at_range; go_loud (refine wpList_range_map rfl _ rfl rfl hm' ?_); intro ob hrg)
  have hrg' := Lib.hid hrg
  clear hrg hm' hs2
  go_loopg [] L.length (fun n wr => ∃ (x y : Int) (todo : List (Key × Cnt)), n = todo.length ∧ Bnd todo ∧ 0 ≤ x ∧ 0 ≤ y ∧ x + (sumBy p todo).1 = (sumBy p L).1 ∧ y + (sumBy p todo).2 = (sumBy p L).2 ∧
    wr.heap[w.heap.size]? = some (.cells #[.int .i64 0, .int .i64 0] 34 (0, 0)) ∧ wr.heap[w.heap.size + 1]? = some (.cells #[.int .i64 x, .int .i64 y] 34 (0, 0)) ∧ Ranging wr m (w.heap.size + 1 + 1) L todo ∧ Below w.heap.size w wr)
  case atStart =>
    refine ⟨0, 0, L, rfl, hb'.out, Int.le_refl _, Int.le_refl _, by simp, by simp, ?_, ?_, by simpa using hrg'.out, ((((Below.refl _ _).alloc (Nat.le_refl _) _).alloc (by simp) _).alloc (by simp <;> omega) _)⟩
    · rw [heap_alloc_old _ _ (by simp <;> omega)]; exact heap_alloc2_old _ _ _
    · rw [heap_alloc_old _ _ (by simp)]; exact heap_alloc2_new _ _ _
  case round =>
    obtain ⟨x, y, todo, rfl, hbt, hx0, hy0, hx, hy, hres, hout, hrg, hbel⟩ := hrel
    have hlt := hrg.lt
    have hsz0 := hbel.size
    have hout' := Lib.hid hout
    have hres' := Lib.hid hres
    have hbel' := Lib.hid hbel
    have hbt' := Lib.hid hbt
    have hx' := Lib.hid hx
    have hy' := Lib.hid hy
    clear hout hres hbel hbt hx hy
    go_wp2_with (at_next; refine wpList_next_map rfl _ rfl rfl hrg ?_ ?_)
    · intro h0
      subst h0
      have hc0 : wr.cell? ⟨w.heap.size + 1, 0, none⟩ = some (.int .i64 x) := by rw [cell_of_row _ _ _ _ _ _ hout'.out]; rfl
      have hc1 : wr.cell? ⟨w.heap.size + 1, 1, none⟩ = some (.int .i64 y) := by rw [cell_of_row _ _ _ _ _ _ hout'.out]; rfl
      have hd0 : wr.cell? ⟨w.heap.size, 0, none⟩ = some (.int .i64 0) := by rw [cell_of_row _ _ _ _ _ _ hres'.out]; rfl
      have hd1 : wr.cell? ⟨w.heap.size, 1, none⟩ = some (.int .i64 0) := by rw [cell_of_row _ _ _ _ _ _ hres'.out]; rfl
      have hf0 : wr.frozen? ⟨w.heap.size, 0, none⟩ = false := frozen_of_row _ _ _ _ _ hres'.out
      have hf1 : wr.frozen? ⟨w.heap.size, 1, none⟩ = false := frozen_of_row _ _ _ _ _ hres'.out
      clear hrg
      go_wp2_with fail
      have hxx : x = (sumBy p L).1 := by have := hx'.out; simp only [sumBy] at this; omega
      have hyy : y = (sumBy p L).2 := by have := hy'.out; simp only [sumBy] at this; omega
      refine bodyPost_ret (v := .agg #[.int .i64 x, .int .i64 y]) (by simp [results, Tryz.results32, go_sem, hd0, hd1]) rfl ⟨by rw [hxx, hyy], (hbel'.out.setCell (Nat.le_refl _) _).setCell (Nat.le_refl _) _⟩
    · intro k1 k2 k3 c1 c2 todo' w1 hperm hrg1 hg1 hsz1 hen
      have hbt1 := hbt'.out.perm hperm
      have hout1 : w1.heap[w.heap.size + 1]? = some (.cells #[.int .i64 x, .int .i64 y] 34 (0, 0)) := (hg1.block _ (by omega) (by simp)).trans hout'.out
      have hres1 : w1.heap[w.heap.size]? = some (.cells #[.int .i64 0, .int .i64 0] 34 (0, 0)) := (hg1.block _ (by omega) (by simp <;> omega)).trans hres'.out
      have hbel1 : Below w.heap.size w w1 := hbel'.out.grown hg1 hsz0 (fun j hj => by cases hj; omega)
      have hcnt : 0 ≤ c1 ∧ c1 ≤ 1000000000000 ∧ 0 ≤ c2 ∧ c2 ≤ 1000000000000 := by
        have h1 := hbt1.1 ((k1, k2, k3), (c1, c2)) (by simp)
        have h2 := hbt1.2
        have h3 := sumBy_bound (fun _ => true) hbt1.tail.1
        simp only [sumBy, if_true] at h1 h2
        omega
      have hsum : sumBy p todo = sumBy p (((k1, k2, k3), (c1, c2)) :: todo') := sumBy_perm p hperm
      have hxb : x ≤ 1000000000000 ∧ y ≤ 1000000000000 := by
        have h1 := sumBy_bound p hbt'.out.1
        have h2 := hx'.out
        have h3 := hy'.out
        have h4 := sumBy_bound p hb'.out.1
        have h5 := hb'.out.2
        omega
      have hlt1 := hrg1.lt
      -- the world in which the predicate is called, and the one behind it
      obtain ⟨W1, hW1⟩ : ∃ W1, W1 = (w1.alloc (.cells #[.int .i64 k1, .int .i64 k2, .string k3] 64)).alloc (.cells #[.int .i64 c1, .int .i64 c2] 34) := ⟨_, rfl⟩
      have hb1 : Below w1.heap.size w1 W1 := by rw [hW1]; exact ((Below.refl _ _).alloc (Nat.le_refl _) _).alloc (by simp) _
      have hbw1 : Below w.heap.size w W1 := hbel1.trans (hb1.mono (by omega))
      have hW1s : W1.heap.size = w1.heap.size + 1 + 1 := by rw [hW1]; simp
      have hcell1 : W1.heap[w1.heap.size + 1]? = some (.cells #[.int .i64 c1, .int .i64 c2] 34 (0, 0)) := by rw [hW1]; exact heap_alloc2_new _ _ _
      have hpc := hp'.out W1 k1 k2 k3 hbw1
      have facts : ∀ W2, Below W1.heap.size W1 W2 → W2.heap[w.heap.size + 1]? = some (.cells #[.int .i64 x, .int .i64 y] 34 (0, 0)) ∧ W2.heap[w.heap.size]? = some (.cells #[.int .i64 0, .int .i64 0] 34 (0, 0)) ∧ W2.heap[w1.heap.size + 1]? = some (.cells #[.int .i64 c1, .int .i64 c2] 34 (0, 0)) ∧ Ranging W2 m (w.heap.size + 1 + 1) L todo' ∧ Below w.heap.size w W2 := fun W2 h2 => by
        refine ⟨?_, ?_, ?_, ?_, hbw1.trans (h2.mono (by omega))⟩
        · rw [h2.block _ (by omega), hb1.block _ (by omega)]; exact hout1
        · rw [h2.block _ (by omega), hb1.block _ (by omega)]; exact hres1
        · rw [h2.block _ (by omega)]; exact hcell1
        · exact hrg1.block (by rw [h2.block _ (by omega), hb1.block _ (by omega)]) (by rw [h2.block _ (by omega), hb1.block _ (by omega)])
      rw [hW1] at hpc
      have hpc' := Lib.hid hpc
      have facts' := Lib.hid facts
      have hperm' := Lib.hid hperm
      have hsum' := Lib.hid hsum
      have hbt1' := Lib.hid hbt1
      have hW1' := Lib.hid hW1
      have hrg1' := Lib.hid hrg1
      clear hpc facts hperm hsum hbt1 hcell1 hW1s hbw1 hb1 hbel1 hout1 hres1 hg1 hW1 hrg1 hsz1 hs hrg
      obtain ⟨e1, e2, e3, e4⟩ := hcnt
      obtain ⟨e5, e6⟩ := hxb
      go_wp2_with (go_at_fn g; fail)
      refine hpc'.out.mono ?_
      rintro e W2 ⟨rfl, hb2⟩
      obtain ⟨f1, f2, f3, f4, f5⟩ := facts'.out W2 (by rw [hW1'.out]; exact hb2)
      have o0 : W2.cell? ⟨w.heap.size + 1, 0, none⟩ = some (.int .i64 x) := by rw [cell_of_row _ _ _ _ _ _ f1]; rfl
      have o1 : W2.cell? ⟨w.heap.size + 1, 1, none⟩ = some (.int .i64 y) := by rw [cell_of_row _ _ _ _ _ _ f1]; rfl
      have o2 : W2.cell? ⟨w1.heap.size + 1, 0, none⟩ = some (.int .i64 c1) := by rw [cell_of_row _ _ _ _ _ _ f3]; rfl
      have o3 : W2.cell? ⟨w1.heap.size + 1, 1, none⟩ = some (.int .i64 c2) := by rw [cell_of_row _ _ _ _ _ _ f3]; rfl
      have f1' := Lib.hid f1
      have f2' := Lib.hid f2
      have f4' := Lib.hid f4
      have f5' := Lib.hid f5
      have hsz2 : w.heap.size + 2 < W2.heap.size := by have := f4.lt; omega
      clear f1 f2 f3 f4 f5 hb2 facts'
      cases hpk : p (k1, k2, k3) with
      | true =>
        have hpk' := Lib.hid hpk
        clear hpk
        go_wp2_with (go_at_call 47; fail)
        refine (plus_any x y c1 c2 _ ⟨hx0, e5⟩ ⟨hy0, e6⟩ ⟨e1, e2⟩ ⟨e3, e4⟩).mono ?_
        rintro e W3 ⟨rfl, hb3⟩
        have f6 : W3.heap[w.heap.size + 1]? = some (.cells #[.int .i64 x, .int .i64 y] 34 (0, 0)) := (hb3.block _ (by omega)).trans f1'.out
        have f7 : W3.heap[w.heap.size]? = some (.cells #[.int .i64 0, .int .i64 0] 34 (0, 0)) := (hb3.block _ (by omega)).trans f2'.out
        have f8 : Ranging W3 m (w.heap.size + 1 + 1) L todo' := f4'.out.block (hb3.block _ f4'.out.lt.1) (hb3.block _ f4'.out.lt.2.1)
        have f9 : Below w.heap.size w W3 := f5'.out.trans (hb3.mono (by omega))
        have q0 : W3.cell? ⟨w.heap.size + 1, 0, none⟩ = some (.int .i64 x) := by rw [cell_of_row _ _ _ _ _ _ f6]; rfl
        have q1 : W3.cell? ⟨w.heap.size + 1, 1, none⟩ = some (.int .i64 y) := by rw [cell_of_row _ _ _ _ _ _ f6]; rfl
        have q2 : W3.frozen? ⟨w.heap.size + 1, 0, none⟩ = false := frozen_of_row _ _ _ _ _ f6
        have q3 : W3.frozen? ⟨w.heap.size + 1, 1, none⟩ = false := frozen_of_row _ _ _ _ _ f6
        have hsz3 := hb3.size
        have f6' := Lib.hid f6
        have f7' := Lib.hid f7
        have f8' := Lib.hid f8
        have f9' := Lib.hid f9
        clear f6 f7 f8 f9 hb3
        go_wp2_with fail
        go_roundg todo'.length
        case measure => have := hperm'.out.length_eq; simp at this; omega
        case rel =>
          have hs1 : sumBy p todo = (c1 + (sumBy p todo').1, c2 + (sumBy p todo').2) := by rw [hsum'.out]; simp only [sumBy, hpk'.out, if_true]
          have hx1 := hx'.out
          have hy1 := hy'.out
          rw [hs1] at hx1 hy1
          refine ⟨x + c1, y + c2, todo', rfl, hbt1'.out.tail, by omega, by omega, by omega, by omega, ?_, ?_, ?_, ?_⟩
          · rw [heap_setCell_other _ _ _ _ (by simp), heap_setCell_other _ _ _ _ (by simp)]; exact f7'.out
          · rw [heap_setCell_same _ _ _ _ _ _ (heap_setCell_same _ _ _ _ _ _ f6'.out)]; rfl
          · exact f8'.out.block (by rw [heap_setCell_other _ _ _ _ (by simp <;> omega), heap_setCell_other _ _ _ _ (by simp <;> omega)]) (by rw [heap_setCell_other _ _ _ _ (by simp), heap_setCell_other _ _ _ _ (by simp)])
          · exact (f9'.out.setCell (by simp) _).setCell (by simp) _
      | false =>
        have hpk' := Lib.hid hpk
        clear hpk
        go_wp2_with fail
        go_roundg todo'.length
        case measure => have := hperm'.out.length_eq; simp at this; omega
        case rel =>
          have hs1 : sumBy p todo = sumBy p todo' := by rw [hsum'.out]; simp only [sumBy, hpk'.out, Bool.false_eq_true, if_false]
          have hx1 := hx'.out
          have hy1 := hy'.out
          rw [hs1] at hx1 hy1
          exact ⟨x, y, todo', rfl, hbt1'.out.tail, hx0, hy0, hx1, hy1, f2'.out, f1'.out, f4'.out, f5'.out⟩

theorem totclos_enters : ∀ (args : Array Value) (w : World), Sem.run Tryz.prog (callFunc 33 args) w = Result.ok (Next.enter 33 args) w :=
  enters_of Tryz.func33 (by kernel_rfl) rfl
def isWhole (k : Key) : Bool := k.2.1 == 0
theorem totclos_pays (w : World) : KeyPred 33 #[] isWhole w := fun W k1 k2 k3 _ => by
  show Calls Tryz.prog 33 #[.agg #[.int .i64 k1, .int .i64 k2, .string k3]] W _
  go_enter Tryz.func33, Tryz.ntmps33
  go_wp2_with fail
  go_ret
  exact ⟨rfl, (Below.refl _ _).alloc (Nat.le_refl _) _⟩

/-- statistics in memory: their block, their map's block, the counts and the sizes -/
def StatsAt (w : World) (sb m : Nat) (L : List (Key × Cnt)) (zs : List Int) : Prop :=
  w.heap[sb]? = some (.cells (Value.map (some m) :: zs.map (Value.int .i64)).toArray 72 (0, 0)) ∧ zs.length = 18 ∧ MapIs w m L
theorem StatsAt.cell0 {w : World} {sb m : Nat} {L : List (Key × Cnt)} {zs : List Int} (h : StatsAt w sb m L zs) : w.cell? ⟨sb, 0, none⟩ = some (.map (some m)) := by
  rw [cell_of_row _ _ _ _ _ _ h.1]; rfl
theorem StatsAt.lt {w : World} {sb m : Nat} {L : List (Key × Cnt)} {zs : List Int} (h : StatsAt w sb m L zs) : sb < w.heap.size ∧ m < w.heap.size ∧ sb ≠ m := by
  refine ⟨(Array.getElem?_eq_some_iff.1 h.1).1, h.2.2.lt, fun e => ?_⟩
  subst e
  obtain ⟨es, clock, h1, _⟩ := h.2.2
  rw [h.1] at h1; cases h1
theorem StatsAt.below {w w' : World} {sb m : Nat} {L : List (Key × Cnt)} {zs : List Int} (h : StatsAt w sb m L zs) (hb : Below w.heap.size w w') : StatsAt w' sb m L zs :=
  ⟨(hb.block sb h.lt.1).trans h.1, h.2.1, h.2.2.below hb h.lt.2.1⟩

theorem total_any (sb m : Nat) (L : List (Key × Cnt)) (zs : List Int) (w : World) (h : StatsAt w sb m L zs) (hb : Bnd L) :
    Calls Tryz.prog 11 #[.pointer (some ⟨sb, 0, none⟩)] w fun e w' => e = .returned (.agg #[.int .i64 (sumBy isWhole L).1, .int .i64 (sumBy isWhole L).2]) ∧ Below w.heap.size w w' := by
  have h1 := h.below ((Below.refl w.heap.size w).alloc (Nat.le_refl _) (.cells #[.int .i64 0, .int .i64 0] 34))
  have hs := Lib.hid (sum_any sb m _ #[] isWhole L _ h1.cell0 h1.2.2 hb totclos_enters (totclos_pays _))
  clear h h1 hb
  go_enter Tryz.func11, Tryz.ntmps11
  go_wp2_with (go_at_call 32; fail)
  refine hs.out.mono ?_
  rintro e w1 ⟨rfl, hb1⟩
  have hd0 : w1.cell? ⟨w.heap.size, 0, none⟩ = some (.int .i64 0) := by rw [cell_of_row _ _ _ _ _ _ ((hb1.block w.heap.size (by simp)).trans (heap_alloc_new w _))]; rfl
  have hd1 : w1.cell? ⟨w.heap.size, 1, none⟩ = some (.int .i64 0) := by rw [cell_of_row _ _ _ _ _ _ ((hb1.block w.heap.size (by simp)).trans (heap_alloc_new w _))]; rfl
  have hf0 : w1.frozen? ⟨w.heap.size, 0, none⟩ = false := frozen_of_row _ _ _ _ _ ((hb1.block w.heap.size (by simp)).trans (heap_alloc_new w _))
  have hf1 : w1.frozen? ⟨w.heap.size, 1, none⟩ = false := frozen_of_row _ _ _ _ _ ((hb1.block w.heap.size (by simp)).trans (heap_alloc_new w _))
  have hbb := Lib.hid (((Below.refl w.heap.size w).alloc (Nat.le_refl _) (.cells #[.int .i64 0, .int .i64 0] 34)).trans (hb1.mono (by simp)))
  clear hb1
  obtain ⟨x, hx⟩ : ∃ x, x = (sumBy isWhole L).1 := ⟨_, rfl⟩
  obtain ⟨y, hy⟩ : ∃ x, x = (sumBy isWhole L).2 := ⟨_, rfl⟩
  rw [← hx, ← hy]
  have hx' := Lib.hid hx
  have hy' := Lib.hid hy
  clear hx hy hs
  go_wp2_with fail
  exact bodyPost_ret (v := .agg #[.int .i64 x, .int .i64 y]) (by simp [results, Tryz.results11, go_sem, hd0, hd1]) rfl ⟨by rw [hx'.out, hy'.out], (hbb.out.setCell (Nat.le_refl _) _).setCell (Nat.le_refl _) _⟩

theorem ofclos_enters : ∀ (args : Array Value) (w : World), Sem.run Tryz.prog (callFunc 55 args) w = Result.ok (Next.enter 55 args) w :=
  enters_of Tryz.func55 (by kernel_rfl) rfl
def ofPred (kind : Int) (name : ByteArray) (a b : Int) (k : Key) : Bool := k.2.1 == kind && (k.2.2.toList == name.toList && (decide (a ≤ k.1) && decide (k.1 ≤ b)))
set_option maxHeartbeats 800000 in
theorem ofclos_pays (b : Nat) (kind : Int) (name : ByteArray) (p q : Int) (w : World) (hlt : b + 3 < w.heap.size)
    (h0 : w.cell? ⟨b, 0, none⟩ = some (.int .i64 kind)) (h1 : w.cell? ⟨b + 1, 0, none⟩ = some (.string name)) (h2 : w.cell? ⟨b + 1 + 1, 0, none⟩ = some (.int .i64 p)) (h3 : w.cell? ⟨b + 1 + 1 + 1, 0, none⟩ = some (.int .i64 q)) :
    KeyPred 55 #[.pointer (some ⟨b, 0, none⟩), .pointer (some ⟨b + 1, 0, none⟩), .pointer (some ⟨b + 1 + 1, 0, none⟩), .pointer (some ⟨b + 1 + 1 + 1, 0, none⟩)] (ofPred kind name p q) w := fun W k1 k2 k3 hb => by
  show Calls Tryz.prog 55 #[.agg #[.int .i64 k1, .int .i64 k2, .string k3], .pointer (some ⟨b, 0, none⟩), .pointer (some ⟨b + 1, 0, none⟩), .pointer (some ⟨b + 1 + 1, 0, none⟩), .pointer (some ⟨b + 1 + 1 + 1, 0, none⟩)] W _
  have hb2 : ∀ o, Below w.heap.size w (W.alloc o) := fun o => hb.alloc hb.size o
  have g0 : ∀ o, (W.alloc o).cell? ⟨b, 0, none⟩ = some (.int .i64 kind) := fun o => ((hb2 o).cell (p := ⟨b, 0, none⟩) (by show b < _; omega)).trans h0
  have g1 : ∀ o, (W.alloc o).cell? ⟨b + 1, 0, none⟩ = some (.string name) := fun o => ((hb2 o).cell (p := ⟨b + 1, 0, none⟩) (by show b + 1 < _; omega)).trans h1
  have g2 : ∀ o, (W.alloc o).cell? ⟨b + 1 + 1, 0, none⟩ = some (.int .i64 p) := fun o => ((hb2 o).cell (p := ⟨b + 1 + 1, 0, none⟩) (by show b + 1 + 1 < _; omega)).trans h2
  have g3 : ∀ o, (W.alloc o).cell? ⟨b + 1 + 1 + 1, 0, none⟩ = some (.int .i64 q) := fun o => ((hb2 o).cell (p := ⟨b + 1 + 1 + 1, 0, none⟩) (by show b + 1 + 1 + 1 < _; omega)).trans h3
  clear h0 h1 h2 h3 hb2 hb hlt
  go_enter Tryz.func55, Tryz.ntmps55
  go_wp2_with fail
  all_goals
    go_ret
    refine ⟨ret_bool ?_, (Below.refl _ _).alloc (Nat.le_refl _) _⟩
    first
      | (simp [ofPred, *]; done)
      | (simp [ofPred, *]; omega)

def zeroCnt (kind : Int) (c : Cnt) : Cnt := if kind = 0 then (0, 0) else c
set_option maxHeartbeats 800000 in
theorem of_any (sb m : Nat) (L : List (Key × Cnt)) (zs : List Int) (kind : Int) (name : ByteArray) (p q : Int) (w : World) (h : StatsAt w sb m L zs) (hb : Bnd L) :
    Calls Tryz.prog 28 #[.pointer (some ⟨sb, 0, none⟩), .int .i64 kind, .string name, .int .i64 p, .int .i64 q] w fun e w' =>
      e = .returned (.agg #[.int .i64 (zeroCnt kind (sumBy (ofPred kind name p q) L)).1, .int .i64 (zeroCnt kind (sumBy (ofPred kind name p q) L)).2]) ∧ Below w.heap.size w w' := by
  obtain ⟨W, hW⟩ : ∃ W, W = ((((w.alloc (.cells #[.int .i64 kind] 3)).alloc (.cells #[.string name] 9)).alloc (.cells #[.int .i64 p] 3)).alloc (.cells #[.int .i64 q] 3)).alloc (.cells #[.int .i64 0, .int .i64 0] 34) := ⟨_, rfl⟩
  have hbW : Below w.heap.size w W := by
    rw [hW]
    exact (((((Below.refl _ w).alloc (Nat.le_refl _) _).alloc (by simp) _).alloc (by simp <;> omega) _).alloc (by simp <;> omega) _).alloc (by simp <;> omega) _
  have hWs : W.heap.size = w.heap.size + 5 := by rw [hW]; simp
  by_cases h0 : kind = 0
  · subst h0
    have hbW' := Lib.hid hbW
    have hW' := Lib.hid hW
    clear hbW hW h hb hWs
    go_enter Tryz.func28, Tryz.ntmps28
    go_wp2_with fail
    refine bodyPost_ret (v := .agg #[.int .i64 0, .int .i64 0]) (by simp [results, Tryz.results28, go_sem]) rfl ⟨rfl, ?_⟩
    exact (((((Below.refl _ w).alloc (Nat.le_refl _) _).alloc (by simp) _).alloc (by simp <;> omega) _).alloc (by simp <;> omega) _).alloc (by simp <;> omega) _
  · have hk : (kind == 0) = false := beq_eq_false_iff_ne.2 h0
    have hz : zeroCnt kind (sumBy (ofPred kind name p q) L) = sumBy (ofPred kind name p q) L := by rw [zeroCnt, if_neg h0]
    rw [hz]
    have b0 : W.heap[w.heap.size]? = some (.cells #[.int .i64 kind] 3 (0, 0)) := by
      rw [hW, heap_alloc_old _ _ (by simp <;> omega), heap_alloc_old _ _ (by simp <;> omega), heap_alloc_old _ _ (by simp <;> omega), heap_alloc_old _ _ (by simp)]; exact heap_alloc_new _ _
    have b1 : W.heap[w.heap.size + 1]? = some (.cells #[.string name] 9 (0, 0)) := by
      rw [hW, heap_alloc_old _ _ (by simp <;> omega), heap_alloc_old _ _ (by simp <;> omega), heap_alloc_old _ _ (by simp)]
      have := heap_alloc_new (w.alloc (.cells #[.int .i64 kind] 3)) (.cells #[.string name] 9); simpa using this
    have b2 : W.heap[w.heap.size + 1 + 1]? = some (.cells #[.int .i64 p] 3 (0, 0)) := by
      rw [hW, heap_alloc_old _ _ (by simp <;> omega), heap_alloc_old _ _ (by simp)]
      have := heap_alloc_new ((w.alloc (.cells #[.int .i64 kind] 3)).alloc (.cells #[.string name] 9)) (.cells #[.int .i64 p] 3); simpa using this
    have b3 : W.heap[w.heap.size + 1 + 1 + 1]? = some (.cells #[.int .i64 q] 3 (0, 0)) := by
      rw [hW, heap_alloc_old _ _ (by simp)]
      have := heap_alloc_new (((w.alloc (.cells #[.int .i64 kind] 3)).alloc (.cells #[.string name] 9)).alloc (.cells #[.int .i64 p] 3)) (.cells #[.int .i64 q] 3); simpa using this
    have b4 : W.heap[w.heap.size + 1 + 1 + 1 + 1]? = some (.cells #[.int .i64 0, .int .i64 0] 34 (0, 0)) := by
      rw [hW]
      have := heap_alloc_new ((((w.alloc (.cells #[.int .i64 kind] 3)).alloc (.cells #[.string name] 9)).alloc (.cells #[.int .i64 p] 3)).alloc (.cells #[.int .i64 q] 3)) (.cells #[.int .i64 0, .int .i64 0] 34); simpa using this
    have hp := ofclos_pays w.heap.size kind name p q W (by omega) (by rw [cell_of_row _ _ _ _ _ _ b0]; rfl) (by rw [cell_of_row _ _ _ _ _ _ b1]; rfl) (by rw [cell_of_row _ _ _ _ _ _ b2]; rfl) (by rw [cell_of_row _ _ _ _ _ _ b3]; rfl)
    have h1 := h.below hbW
    have hs := sum_any sb m _ _ (ofPred kind name p q) L W h1.cell0 h1.2.2 hb ofclos_enters hp
    have b4' := Lib.hid b4
    have hWs' := Lib.hid hWs
    have hbW' := Lib.hid hbW
    clear h0 hz hp h1 h hb b0 b1 b2 b3 b4 hWs hbW
    obtain ⟨x, hx⟩ : ∃ x, x = (sumBy (ofPred kind name p q) L).1 := ⟨_, rfl⟩
    obtain ⟨y, hy⟩ : ∃ x, x = (sumBy (ofPred kind name p q) L).2 := ⟨_, rfl⟩
    rw [← hx, ← hy] at hs
    rw [← hx, ← hy]
    clear hx hy
    rw [hW] at hs
    have hs' := Lib.hid hs
    have hW' := Lib.hid hW
    clear hs hW
    go_enter Tryz.func28, Tryz.ntmps28
    go_wp2_with (go_at_call 32; fail)
    refine hs'.out.mono ?_
    rintro e w1 ⟨rfl, hb1⟩
    rw [← hW'.out] at hb1
    have hbl : w1.heap[w.heap.size + 1 + 1 + 1 + 1]? = some (.cells #[.int .i64 0, .int .i64 0] 34 (0, 0)) := (hb1.block _ (by have := hWs'.out; omega)).trans b4'.out
    have hd0 : w1.cell? ⟨w.heap.size + 1 + 1 + 1 + 1, 0, none⟩ = some (.int .i64 0) := by rw [cell_of_row _ _ _ _ _ _ hbl]; rfl
    have hd1 : w1.cell? ⟨w.heap.size + 1 + 1 + 1 + 1, 1, none⟩ = some (.int .i64 0) := by rw [cell_of_row _ _ _ _ _ _ hbl]; rfl
    have hf0 : w1.frozen? ⟨w.heap.size + 1 + 1 + 1 + 1, 0, none⟩ = false := frozen_of_row _ _ _ _ _ hbl
    have hf1 : w1.frozen? ⟨w.heap.size + 1 + 1 + 1 + 1, 1, none⟩ = false := frozen_of_row _ _ _ _ _ hbl
    have hbb := Lib.hid (hbW'.out.trans (hb1.mono hbW'.out.size))
    clear hb1 hbl
    go_wp2_with fail
    exact bodyPost_ret (v := .agg #[.int .i64 x, .int .i64 y]) (by simp [results, Tryz.results28, go_sem, hd0, hd1]) rfl ⟨rfl, (hbb.out.setCell (by simp <;> omega) _).setCell (by simp <;> omega) _⟩
end Go.Proofs.YtlemadbmlnjhpaaGreatDoor
namespace Go.Proofs.YtlemadbmlnjhpaaGreatDoor
open Go Go.RowKit Go.Proofs
open Go.ChangeMaps (setBlock)
set_option linter.unusedSimpArgs false
set_option linter.unusedVariables false

def noSizes : List Int := List.replicate 18 0
def NewEnd (w : World) (e : Ending) (w' : World) : Prop := e = .returned (.pointer (some ⟨w.heap.size + 1, 0, none⟩)) ∧ StatsAt w' (w.heap.size + 1) w.heap.size [] noSizes ∧ Below w.heap.size w w'
theorem new_any (w : World) : Calls Tryz.prog 25 #[] w (NewEnd w) := by
  have hmm := @run_makeMap Tryz.prog
  go_enter Tryz.func25, Tryz.ntmps25
  go_wp2_with fail
  go_ret
  refine ⟨rfl, ⟨?_, rfl, ?_⟩, ((Below.refl _ w).alloc (Nat.le_refl _) _).alloc (by simp) _⟩
  · exact heap_alloc2_new _ _ _
  · exact (MapIs.made w).block (heap_alloc_old _ _ (by simp))

/-- one more article of b bytes for a key -/
def bump (L : List (Key × Cnt)) (k : Key) (b : Int) : List (Key × Cnt) := putL k ((getL k L).1 + 1, (getL k L).2 + b) L

theorem getL_bound {k : Key} {L : List (Key × Cnt)} (h : Bnd L) : 0 ≤ (getL k L).1 ∧ (getL k L).1 ≤ 1000000000000 ∧ 0 ≤ (getL k L).2 ∧ (getL k L).2 ≤ 1000000000000 := by
  unfold getL
  cases hq : findL k L 0 with
  | none => simp
  | some p =>
    obtain ⟨j, d⟩ := p
    have hm : ∀ (L : List (Key × Cnt)) (i : Nat), findL k L i = some (j, d) → ∃ q ∈ L, q.2 = d := by
      intro L
      induction L with
      | nil => intro i h; cases h
      | cons p r ih =>
        intro i h
        unfold findL at h
        split at h
        · exact ⟨p, by simp, by simpa using congrArg Prod.snd (Option.some.inj h)⟩
        · obtain ⟨q, hq, he⟩ := ih (i + 1) h; exact ⟨q, by simp [hq], he⟩
    obtain ⟨q, hql, hqd⟩ := hm L 0 hq
    subst hqd
    have hb : ∀ (L : List (Key × Cnt)), (∀ q ∈ L, 0 ≤ q.2.1 ∧ 0 ≤ q.2.2) → q ∈ L → q.2.1 ≤ (sumBy (fun _ => true) L).1 ∧ q.2.2 ≤ (sumBy (fun _ => true) L).2 := by
      intro L
      induction L with
      | nil => intro _ h; cases h
      | cons p r ih =>
        intro hL hq
        have hp := hL p (by simp)
        have hs := sumBy_bound (fun _ => true) (L := r) (fun x hx => hL x (by simp [hx]))
        simp only [sumBy, if_true]
        rcases List.mem_cons.1 hq with rfl | hq
        · omega
        · have := ih (fun x hx => hL x (by simp [hx])) hq; omega
    have h1 := hb L h.1 hql
    have h2 := h.1 q hql
    have h3 := h.2
    simp only [Option.map_some, Option.getD_some]
    omega

def ClosEnd (w : World) (m : Nat) (L : List (Key × Cnt)) (e : Ending) (w' : World) : Prop := e = .returned (.tuple #[]) ∧ MapIs w' m L ∧ w.grownBy w' (some m)

theorem clos_grown {w W W1 W2 : World} {m : Nat} (hb : Below w.heap.size w W) (h1 : Below W.drew.heap.size W.drew W1) (hg : W1.grownBy W2 (some m)) : w.grownBy W2 (some m) := by
  have hb1 : Below W.heap.size W.drew W1 := h1
  refine ⟨hg.os.trans (hb1.os.trans hb.os), hg.tape.trans (hb1.tape.trans hb.tape), hg.output.trans (hb1.output.trans hb.output), ?_, fun i hi hne => ?_⟩
  · have a := hb.size; have b := hb1.size; have c := hg.size; simp at b; omega
  · have a := hb.size
    have b := hb1.size
    simp at b
    rw [hg.block i (by omega) hne, hb1.block i (by omega)]
    exact hb.block i hi
set_option maxRecDepth 100000 in
set_option maxHeartbeats 1600000 in
theorem addclos_any (db ib eb sb m : Nat) (kind : Int) (name : ByteArray) (day b : Int) (L : List (Key × Cnt)) (w : World)
    (h0 : w.cell? ⟨db, 0, none⟩ = some (.int .i64 day)) (h1 : w.cell? ⟨ib, 0, none⟩ = some (.pointer (some ⟨sb, 0, none⟩))) (h2 : w.cell? ⟨eb, 19, none⟩ = some (.int .i64 b)) (h3 : w.cell? ⟨sb, 0, none⟩ = some (.map (some m)))
    (hm : MapIs w m L) (hb : Bnd L) (hb0 : 0 ≤ b ∧ b ≤ 65536) :
    Calls Tryz.prog 49 #[.int .i64 kind, .string name, .pointer (some ⟨db, 0, none⟩), .pointer (some ⟨ib, 0, none⟩), .pointer (some ⟨eb, 0, none⟩)] w (ClosEnd w m (bump L (day, kind, name) b)) := by
  have hgb := getL_bound (k := (day, kind, name)) hb
  obtain ⟨c1, hc1⟩ : ∃ c, c = (getL (day, kind, name) L).1 := ⟨_, rfl⟩
  obtain ⟨c2, hc2⟩ : ∃ c, c = (getL (day, kind, name) L).2 := ⟨_, rfl⟩
  have hbump : bump L (day, kind, name) b = putL (day, kind, name) (c1 + 1, c2 + b) L := by rw [hc1, hc2]; rfl
  rw [hbump]
  rw [← hc1, ← hc2] at hgb
  obtain ⟨W, hW⟩ : ∃ W, W = w.alloc (.cells #[.int .i64 day, .int .i64 kind, .string name] 64) := ⟨_, rfl⟩
  have hbW : Below w.heap.size w W := by rw [hW]; exact (Below.refl _ _).alloc (Nat.le_refl _) _
  have hWs : W.heap.size = w.heap.size + 1 := by rw [hW]; simp
  have hmW := hm.below hbW hm.lt
  have hlk : (Instr.lookup 70 (.map (some m)) (.agg #[.int .i64 day, .int .i64 kind, .string name]) false).run Tryz.prog W.drew = .ok (.agg #[.int .i64 c1, .int .i64 c2]) W.drew := by
    have := MapIs.lookup (w := W.drew) (show MapIs W.drew m L from hmW) (day, kind, name)
    rw [hc1, hc2]; exact this
  have k0 : W.cell? ⟨w.heap.size, 0, none⟩ = some (.int .i64 day) := by rw [hW, cell_of_row _ _ _ _ _ _ (heap_alloc_new w _)]; rfl
  have k1 : W.cell? ⟨w.heap.size, 1, none⟩ = some (.int .i64 kind) := by rw [hW, cell_of_row _ _ _ _ _ _ (heap_alloc_new w _)]; rfl
  have k2 : W.cell? ⟨w.heap.size, 2, none⟩ = some (.string name) := by rw [hW, cell_of_row _ _ _ _ _ _ (heap_alloc_new w _)]; rfl
  have g1 : W.cell? ⟨ib, 0, none⟩ = some (.pointer (some ⟨sb, 0, none⟩)) := (hbW.cell (p := ⟨ib, 0, none⟩) (World.block_lt_of_cell? w _ h1)).trans h1
  have g2 : W.cell? ⟨eb, 19, none⟩ = some (.int .i64 b) := (hbW.cell (p := ⟨eb, 19, none⟩) (World.block_lt_of_cell? w _ h2)).trans h2
  have g3 : W.cell? ⟨sb, 0, none⟩ = some (.map (some m)) := (hbW.cell (p := ⟨sb, 0, none⟩) (World.block_lt_of_cell? w _ h3)).trans h3
  have lt1 : ib < W.heap.size := World.block_lt_of_cell? W _ g1
  have lt2 : eb < W.heap.size := World.block_lt_of_cell? W _ g2
  have lt3 : sb < W.heap.size := World.block_lt_of_cell? W _ g3
  have hne : ∀ x o v, W.cell? ⟨x, o, none⟩ = some v → x ≠ m := fun x o v hx e => by
    subst e
    obtain ⟨es, clock, hh, _⟩ := hmW
    simp [World.cell?, hh] at hx
  have n1 := hne _ _ _ g1
  have n2 := hne _ _ _ g3
  have n3 := hne _ _ _ g2
  have n4 := hne _ _ _ k0
  clear hne
  obtain ⟨hb1, hb2⟩ := hb0
  obtain ⟨e1, e2, e3, e4⟩ := hgb
  have hmW' := Lib.hid hmW
  have hbW' := Lib.hid hbW
  have hm' := Lib.hid hm
  have hWs' := Lib.hid hWs
  clear hmW hbW hm hb hbump hc1 hc2 h1 h2 h3
  go_enter Tryz.func49, Tryz.ntmps49
  go_wp2_with fail
  rw [← hW]
  clear hW h0
  go_region_held3 (fun w' => w'.cell? ⟨ib, 0, none⟩ = some (.pointer (some ⟨sb, 0, none⟩)) ∧ w'.cell? ⟨sb, 0, none⟩ = some (.map (some m)) ∧ w'.cell? ⟨eb, 19, none⟩ = some (.int .i64 b) ∧
      w'.cell? ⟨w.heap.size, 0, none⟩ = some (.int .i64 day) ∧ w'.cell? ⟨w.heap.size, 1, none⟩ = some (.int .i64 kind) ∧ w'.cell? ⟨w.heap.size, 2, none⟩ = some (.string name))
    (refine ⟨?_, ?_, ?_, ?_, ?_, ?_⟩ <;> first | assumption | (simp [*]; done))
    (first | (go_at_call 47; refine (plus_any _ _ _ _ _ ⟨e1, e2⟩ ⟨e3, e4⟩ (by omega) (by omega)).mono ?_; rintro e W1 ⟨rfl, hb1⟩; have j1 : W1.cell? ⟨ib, 0, none⟩ = some (.pointer (some ⟨sb, 0, none⟩)) := (hb1.cell (p := ⟨ib, 0, none⟩) lt1).trans g1; have j2 : W1.cell? ⟨sb, 0, none⟩ = some (.map (some m)) := (hb1.cell (p := ⟨sb, 0, none⟩) lt3).trans g3; have j3 : W1.cell? ⟨eb, 19, none⟩ = some (.int .i64 b) := (hb1.cell (p := ⟨eb, 19, none⟩) lt2).trans g2; have j4 : W1.cell? ⟨w.heap.size, 0, none⟩ = some (.int .i64 day) := (hb1.cell (p := ⟨w.heap.size, 0, none⟩) (by have := hWs'.out; show w.heap.size < W.heap.size; omega)).trans k0; have j5 : W1.cell? ⟨w.heap.size, 1, none⟩ = some (.int .i64 kind) := (hb1.cell (p := ⟨w.heap.size, 1, none⟩) (by have := hWs'.out; show w.heap.size < W.heap.size; omega)).trans k1; have j6 : W1.cell? ⟨w.heap.size, 2, none⟩ = some (.string name) := (hb1.cell (p := ⟨w.heap.size, 2, none⟩) (by have := hWs'.out; show w.heap.size < W.heap.size; omega)).trans k2; have hmW1 : MapIs W1 m L := MapIs.below (w := W.drew) hmW'.out hb1 (show m < W.heap.size from hmW'.out.lt); obtain ⟨W2, hup, hm2, hg2⟩ := hmW1.update (day, kind, name) (c1 + 1, c2 + b); have hup2 : (Instr.mapUpdate 70 (.map (some m)) (.agg #[.int .i64 day, .int .i64 kind, .string name]) (.agg #[.int .i64 (c1 + 1), .int .i64 (c2 + b)])).run Tryz.prog W1 = .ok () W2 := hup; clear hup; have z1 := hg2.cell j1 (by simp; exact n1); have z2 := hg2.cell j2 (by simp; exact n2); have z3 := hg2.cell j3 (by simp; exact n3); have z4 := hg2.cell j4 (by simp; exact n4); have z5 := hg2.cell j5 (by simp; exact n4); have z6 := hg2.cell j6 (by simp; exact n4); have hm2' := Lib.hid hm2; have hg2' := Lib.hid hg2; have hb1' := Lib.hid hb1; clear hm2 hg2 hmW1 hb1))
  go_end0
  exact ⟨rfl, hm2'.out, clos_grown hbW'.out hb1'.out hg2'.out⟩
end Go.Proofs.YtlemadbmlnjhpaaGreatDoor
