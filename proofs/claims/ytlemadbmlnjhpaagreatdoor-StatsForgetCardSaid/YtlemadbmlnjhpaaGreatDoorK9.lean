/- The map of counts: its keys are structs; what a look-up, a store and a step of a range do to it. -/
import Derived.Test.YtlemadbmlnjhpaaGreatDoorK8
import Derived.Laws.StructEq
import Derived.ChangeMaps
import Derived.Maps.RangeRun
namespace Go.Proofs.YtlemadbmlnjhpaaGreatDoor
open Go Go.RowKit Go.Proofs
open Go.ChangeMaps (setBlock)
set_option linter.unusedSimpArgs false
set_option linter.unusedVariables false

abbrev Key := Int × Int × ByteArray
abbrev Cnt := Int × Int
def keyV (k : Key) : Value := .agg #[.int .i64 k.1, .int .i64 k.2.1, .string k.2.2]
def cntV (c : Cnt) : Value := .agg #[.int .i64 c.1, .int .i64 c.2]
def encP (p : Key × Cnt) : Value × Value := (keyV p.1, cntV p.2)
def keyEq (a b : Key) : Bool := a.1 == b.1 && (a.2.1 == b.2.1 && a.2.2.toList == b.2.2.toList)
theorem keyEq_iff (a b : Key) : keyEq a b = true ↔ a = b := by
  obtain ⟨a1, a2, a3⟩ := a
  obtain ⟨b1, b2, b3⟩ := b
  simp only [keyEq, Bool.and_eq_true, beq_iff_eq, Prod.mk.injEq]
  constructor
  · rintro ⟨rfl, rfl, h⟩
    exact ⟨rfl, rfl, bytes_beq_true (by simpa using h)⟩
  · rintro ⟨rfl, rfl, rfl⟩; exact ⟨rfl, rfl, rfl⟩

theorem Tryz.check_key (em : Bool) (k : Key) (w : World) : (Instr.checkKey em 10000 64 (keyV k)).run Tryz.prog w = .ok () w := by kernel_rfl
theorem Tryz.equal_key (k k' : Key) (w : World) : (Op.equal 64 (keyV k) (keyV k')).run Tryz.prog w = .ok (keyEq k k') w := by
  unfold keyV keyEq
  simp [Op.equal, Op.maxDepth, go_sem]
  by_cases h1 : k.1 = k'.1
  · by_cases h2 : k.2.1 = k'.2.1
    · by_cases h3 : k.2.2.toList = k'.2.2.toList <;> simp [h1, h2, h3]
    · simp [h1, h2]
  · simp [h1]
theorem Tryz.zero_cnt (w : World) : (zeroValue 34).run Tryz.prog w = .ok (cntV (0, 0)) w := by kernel_rfl

/-- where a key stands first -/
def findL (k : Key) : List (Key × Cnt) → Nat → Option (Nat × Cnt)
  | [], _ => none
  | p :: r, i => if keyEq k p.1 then some (i, p.2) else findL k r (i + 1)
def putL (k : Key) (c : Cnt) : List (Key × Cnt) → List (Key × Cnt)
  | [] => [(k, c)]
  | p :: r => if keyEq k p.1 then (k, c) :: r else p :: putL k c r
def getL (k : Key) (L : List (Key × Cnt)) : Cnt := ((findL k L 0).map Prod.snd).getD (0, 0)

theorem Tryz.run_findAsking (k : Key) (w : World) : ∀ (es : List MapEntry) (L : List (Key × Cnt)) (i : Nat), es.map (fun e => (e.key, e.val)) = L.map encP →
    (Instr.findAsking 64 (keyV k) es i).run Tryz.prog w = .ok ((findL k L i).map fun p => (p.1, cntV p.2)) w
  | [], [], i, _ => by simp [Instr.findAsking, findL, go_sem]
  | [], p :: r, i, h => by simp at h
  | e :: es, [], i, h => by simp at h
  | e :: es, p :: r, i, h => by
    simp only [List.map_cons, List.cons.injEq] at h
    obtain ⟨h1, h2⟩ := h
    have hk : e.key = keyV p.1 := congrArg Prod.fst h1
    have hv : e.val = cntV p.2 := congrArg Prod.snd h1
    have ih := Tryz.run_findAsking k w es r (i + 1) h2
    unfold Instr.findAsking
    simp only [Sem.run_bind, hk, Tryz.equal_key, Result.andThen]
    unfold findL
    by_cases hq : keyEq k p.1 = true
    · simp [hq, hv, Sem.run_pure]
    · simp only [hq, Bool.false_eq_true, if_false]
      exact ih
theorem Tryz.run_findKey (k : Key) (w : World) (es : List MapEntry) (L : List (Key × Cnt)) (h : es.map (fun e => (e.key, e.val)) = L.map encP) :
    (Instr.findKey 64 (keyV k) es).run Tryz.prog w = .ok ((findL k L 0).map fun p => (p.1, cntV p.2)) w := by
  unfold Instr.findKey
  simp only [Sem.run_bind]
  cases es with
  | nil =>
    cases L with
    | nil => simp [Instr.findNow, findL, go_sem, Tryz.underlying64]
    | cons p r => simp at h
  | cons e es =>
    have hr := Tryz.run_findAsking k w (e :: es) L 0 h
    cases L with
    | nil => simp at h
    | cons p r =>
      have hk : e.key = keyV p.1 := by simp only [List.map_cons, List.cons.injEq] at h; exact congrArg Prod.fst h.1
      have hn : ∀ fs, Instr.findNow (.struct fs) (keyV k) (e :: es) 0 = none := fun fs => by
        unfold Instr.findNow; rw [hk]; rfl
      rw [run_underlying Tryz.underlying64]
      simp only [Result.andThen, hn]
      exact hr

def MapIs (w : World) (m : Nat) (L : List (Key × Cnt)) : Prop :=
  ∃ (es : Array MapEntry) (clock : Nat), w.heap[m]? = some (.map es clock) ∧ es.toList.map (fun e => (e.key, e.val)) = L.map encP ∧ es.toList.Pairwise (fun a b => a.born < b.born) ∧ ∀ e ∈ es.toList, e.born < clock
theorem MapIs.block {w w' : World} {m : Nat} {L : List (Key × Cnt)} (h : MapIs w m L) (hb : w'.heap[m]? = w.heap[m]?) : MapIs w' m L := by
  obtain ⟨es, clock, h1, h2⟩ := h
  exact ⟨es, clock, hb.trans h1, h2⟩
theorem MapIs.below {w w' : World} {B m : Nat} {L : List (Key × Cnt)} (h : MapIs w m L) (hb : Below B w w') (hm : m < B) : MapIs w' m L := h.block (hb.block m hm)
theorem MapIs.lt {w : World} {m : Nat} {L : List (Key × Cnt)} (h : MapIs w m L) : m < w.heap.size := by
  obtain ⟨es, clock, h1, _⟩ := h
  exact (Array.getElem?_eq_some_iff.1 h1).1
theorem MapIs.made (w : World) : MapIs (w.alloc (.map #[] 0)) w.heap.size [] :=
  ⟨#[], 0, heap_alloc_new w _, rfl, by simp, by simp⟩

theorem MapIs.lookup {w : World} {m : Nat} {L : List (Key × Cnt)} (h : MapIs w m L) (k : Key) :
    (Instr.lookup 70 (.map (some m)) (keyV k) false).run Tryz.prog w = .ok (cntV (getL k L)) w := by
  obtain ⟨es, clock, h1, h2, _⟩ := h
  have hf := Tryz.run_findKey k w es.toList L h2
  have hc := Tryz.check_key es.isEmpty k w
  unfold getL
  cases hq : findL k L 0 with
  | none =>
    rw [hq] at hf
    simp [Instr.lookup, run_underlying Tryz.underlying70, MapKept.run_getObj_map h1, hc, hf, Result.andThen, Sem.run_pure]
    rfl
  | some p =>
    rw [hq] at hf
    simp [Instr.lookup, run_underlying Tryz.underlying70, MapKept.run_getObj_map h1, hc, hf, Result.andThen, Sem.run_pure]

theorem findL_none {k : Key} : ∀ {L : List (Key × Cnt)} {i : Nat} (c : Cnt), findL k L i = none → putL k c L = L ++ [(k, c)]
  | [], _, _, _ => rfl
  | p :: r, i, c, h => by
    unfold findL at h
    by_cases hq : keyEq k p.1 = true
    · rw [if_pos hq] at h; cases h
    · rw [if_neg hq] at h
      unfold putL
      rw [if_neg hq, findL_none c h]; rfl
theorem findL_some {k : Key} : ∀ {L : List (Key × Cnt)} {i j : Nat} {d : Cnt} (c : Cnt), findL k L i = some (j, d) → i ≤ j ∧ (∃ p, L[j - i]? = some p ∧ p.1 = k) ∧ putL k c L = L.set (j - i) (k, c)
  | [], _, _, _, _, h => by cases h
  | p :: r, i, j, d, c, h => by
    unfold findL at h
    by_cases hq : keyEq k p.1 = true
    · rw [if_pos hq] at h
      obtain ⟨rfl, rfl⟩ := Prod.mk.inj (Option.some.inj h)
      unfold putL
      rw [if_pos hq, Nat.sub_self]
      exact ⟨Nat.le_refl _, ⟨p, rfl, ((keyEq_iff _ _).1 hq).symm⟩, rfl⟩
    · rw [if_neg hq] at h
      obtain ⟨h1, ⟨q, h2, h3⟩, h4⟩ := findL_some c h
      have e : j - i = (j - (i + 1)) + 1 := by omega
      unfold putL
      rw [if_neg hq, h4, e]
      exact ⟨by omega, ⟨q, by simpa using h2, h3⟩, rfl⟩
theorem same_key (k : Key) : Instr.sameBits 10000 (keyV k) (keyV k) = true := by
  unfold keyV
  simp [Instr.sameBits, beq_toListBytes]

theorem MapIs.update {w : World} {m : Nat} {L : List (Key × Cnt)} (h : MapIs w m L) (k : Key) (c : Cnt) :
    ∃ w', (Instr.mapUpdate 70 (.map (some m)) (keyV k) (cntV c)).run Tryz.prog w = .ok () w' ∧ MapIs w' m (putL k c L) ∧ w.grownBy w' (some m) := by
  obtain ⟨es, clock, h1, h2, h3, h4⟩ := h
  have hf := Tryz.run_findKey k w es.toList L h2
  have hc := Tryz.check_key false k w
  have hgrow : ∀ o, w.grownBy (setBlock w m o) (some m) := fun o =>
    ⟨rfl, rfl, rfl, by simp [setBlock], fun i _ hi => by
      show (w.heap.setIfInBounds m o)[i]? = _
      rw [Array.getElem?_setIfInBounds]
      rw [if_neg (fun e => hi (by rw [e]))]⟩
  have hset : ∀ o, (setBlock w m o).heap[m]? = some o := fun o => by
    show (w.heap.setIfInBounds m o)[m]? = _
    rw [Array.getElem?_setIfInBounds, if_pos rfl, if_pos (Array.getElem?_eq_some_iff.1 h1).1]
  cases hq : findL k L 0 with
  | none =>
    rw [hq] at hf
    refine ⟨setBlock w m (.map (es.push { key := keyV k, val := cntV c, born := clock }) (clock + 1)), ?_, ⟨_, _, hset _, ?_, ?_, ?_⟩, hgrow _⟩
    · simp [Instr.mapUpdate, run_underlying Tryz.underlying70, MapKept.run_getObj_map h1, hc, hf, MapKept.run_setObj_map _ h1, Result.andThen, setBlock]
    · rw [findL_none c hq]; simp [h2, encP]
    · rw [Array.toList_push, List.pairwise_append]
      exact ⟨h3, by simp, fun a ha b hb => by simp at hb; subst hb; exact h4 a ha⟩
    · intro e he
      rw [Array.toList_push, List.mem_append] at he
      rcases he with he | he
      · have := h4 e he; omega
      · simp at he; subst he; simp
  | some p =>
    obtain ⟨j, d⟩ := p
    rw [hq] at hf
    obtain ⟨_, ⟨q, hq1, hq2⟩, hq3⟩ := findL_some c hq
    simp only [Nat.sub_zero] at hq1 hq3
    have hej : ∃ e, es[j]? = some e ∧ e.key = keyV k := by
      have e1 : (es.toList.map (fun e => (e.key, e.val)))[j]? = some (encP q) := by rw [h2, List.getElem?_map, hq1]; rfl
      rw [List.getElem?_map] at e1
      cases he : es.toList[j]? with
      | none => rw [he] at e1; cases e1
      | some e =>
        rw [he] at e1
        refine ⟨e, by simpa using he, ?_⟩
        have := congrArg Prod.fst (Option.some.inj e1)
        rw [← hq2]; exact this
    obtain ⟨e, he1, he2⟩ := hej
    have hstay : (Instr.keyThatStays (keyV k) (keyV k)).run Tryz.prog w = .ok (keyV k) w := by
      unfold Instr.keyThatStays; rw [same_key]; simp [Sem.run_pure]
    refine ⟨setBlock w m (.map (es.modify j fun e => { e with key := keyV k, val := cntV c }) clock), ?_, ⟨_, _, hset _, ?_, ?_, ?_⟩, hgrow _⟩
    · simp [Instr.mapUpdate, run_underlying Tryz.underlying70, MapKept.run_getObj_map h1, hc, hf, he1, he2, hstay, MapKept.run_setObj_map _ h1, Result.andThen, setBlock]
    · rw [Array.toList_modify, hq3]
      have h5 : es.toList[j]? = some e := by simpa using he1
      apply List.ext_getElem?
      intro i
      rw [List.getElem?_map, List.getElem?_modify, List.getElem?_map, List.getElem?_set]
      by_cases hij : j = i
      · subst hij
        have hjl : j < L.length := (List.getElem?_eq_some_iff.1 hq1).1
        rw [h5, if_pos rfl, if_pos hjl]; simp [encP]
      · have e2 : (es.toList.map (fun e => (e.key, e.val)))[i]? = (L.map encP)[i]? := by rw [h2]
        rw [List.getElem?_map, List.getElem?_map] at e2
        rw [if_neg hij, ← e2]
        simp [hij]
    · rw [Array.toList_modify]
      have : ((es.toList.modify j fun e => { e with key := keyV k, val := cntV c }).map (·.born)) = es.toList.map (·.born) := by
        apply List.ext_getElem?
        intro i
        rw [List.getElem?_map, List.getElem?_modify, List.getElem?_map]
        cases es.toList[i]? with
        | none => rfl
        | some x => by_cases hij : j = i <;> simp [hij]
      have h6 : (es.toList.map (·.born)).Pairwise (· < ·) := by rw [List.pairwise_map]; exact h3
      rw [← this, List.pairwise_map] at h6
      exact h6
    · intro x hx
      rw [Array.toList_modify] at hx
      obtain ⟨i, hi⟩ := List.mem_iff_getElem?.1 hx
      rw [List.getElem?_modify] at hi
      cases hy : es.toList[i]? with
      | none => rw [hy] at hi; cases hi
      | some y =>
        rw [hy] at hi
        have hb := h4 y (List.mem_of_getElem? hy)
        by_cases hij : j = i
        · simp [hij] at hi; subst hi; exact hb
        · simp [hij] at hi; subst hi; exact hb

def Ranging (w : World) (m r : Nat) (L todo : List (Key × Cnt)) : Prop :=
  ∃ (es : Array MapEntry) (clock since c0 : Nat) (seen : Array Nat), w.heap[r]? = some (.mapIter (some m) since seen c0) ∧ w.heap[m]? = some (.map es clock) ∧
    es.toList.map (fun e => (e.key, e.val)) = L.map encP ∧ es.toList.Pairwise (fun a b => a.born < b.born) ∧ (∀ e ∈ es.toList, e.born < clock) ∧ (∀ e ∈ es.toList, e.born < since) ∧ since ≤ c0 ∧ since ≤ clock ∧
    (leftOf es seen).toList.map (fun e => (e.key, e.val)) = todo.map encP
theorem Ranging.map {w : World} {m r : Nat} {L todo : List (Key × Cnt)} (h : Ranging w m r L todo) : MapIs w m L := by
  obtain ⟨es, clock, since, c0, seen, h1, h2, h3, h4, h5, _⟩ := h
  exact ⟨es, clock, h2, h3, h4, h5⟩
theorem Ranging.block {w w' : World} {m r : Nat} {L todo : List (Key × Cnt)} (h : Ranging w m r L todo) (hm : w'.heap[m]? = w.heap[m]?) (hr : w'.heap[r]? = w.heap[r]?) : Ranging w' m r L todo := by
  obtain ⟨es, clock, since, c0, seen, h1, h2, h3⟩ := h
  exact ⟨es, clock, since, c0, seen, hr.trans h1, hm.trans h2, h3⟩
theorem Ranging.lt {w : World} {m r : Nat} {L todo : List (Key × Cnt)} (h : Ranging w m r L todo) : m < w.heap.size ∧ r < w.heap.size ∧ m ≠ r := by
  obtain ⟨es, clock, since, c0, seen, h1, h2, _⟩ := h
  exact ⟨(Array.getElem?_eq_some_iff.1 h2).1, (Array.getElem?_eq_some_iff.1 h1).1, fun e => by subst e; rw [h1] at h2; cases h2⟩

theorem MapIs.range {w : World} {m : Nat} {L : List (Key × Cnt)} (h : MapIs w m L) :
    ∃ o, (Instr.range 70 (.map (some m))).run Tryz.prog w = .ok (.pointer (some ⟨w.heap.size, 0, none⟩)) (w.alloc o) ∧ Ranging (w.alloc o) m w.heap.size L L := by
  obtain ⟨es, clock, h1, h2, h3, h4⟩ := h
  refine ⟨.mapIter (some m) clock #[] clock, ?_, es, clock, clock, clock, #[], heap_alloc_new w _, ?_, h2, h3, h4, h4, Nat.le_refl _, Nat.le_refl _, ?_⟩
  · simp [Instr.range, run_underlying Tryz.underlying70, MapKept.run_getObj_map h1]
  · rw [heap_alloc_old w _ (Array.getElem?_eq_some_iff.1 h1).1]; exact h1
  · have e : (leftOf es #[]).toList = es.toList := by unfold leftOf; simp
    rw [e]; exact h2

theorem filter_erase : ∀ (l : List MapEntry) (i : Nat) (e : MapEntry), l.Pairwise (fun a b => a.born < b.born) → l[i]? = some e → l.filter (fun x => x.born != e.born) = l.eraseIdx i
  | [], _, _, _, h => by cases h
  | x :: t, 0, e, hp, h => by
    obtain ⟨h1, h2⟩ := List.pairwise_cons.1 hp
    simp only [List.getElem?_cons_zero, Option.some.injEq] at h
    subst h
    rw [List.filter_cons_of_neg (by simp), List.eraseIdx_cons_zero]
    exact List.filter_eq_self.2 fun y hy => by have := h1 y hy; simp; omega
  | x :: t, i + 1, e, hp, h => by
    obtain ⟨h1, h2⟩ := List.pairwise_cons.1 hp
    simp only [List.getElem?_cons_succ] at h
    have hx := h1 e (List.mem_of_getElem? h)
    rw [List.filter_cons_of_pos (by simp; omega), List.eraseIdx_cons_succ, filter_erase t i e h2 h]
theorem map_eraseIdx' {α β : Type} (f : α → β) : ∀ (l : List α) (i : Nat), (l.map f).eraseIdx i = (l.eraseIdx i).map f
  | [], _ => rfl
  | _ :: _, 0 => rfl
  | x :: t, i + 1 => by simp [map_eraseIdx' f t i]
theorem perm_eraseIdx {α : Type} : ∀ (l : List α) (i : Nat) (x : α), l[i]? = some x → l.Perm (x :: l.eraseIdx i)
  | [], _, _, h => by cases h
  | y :: t, 0, x, h => by
    simp only [List.getElem?_cons_zero, Option.some.injEq] at h
    subst h; exact List.Perm.refl _
  | y :: t, i + 1, x, h => by
    simp only [List.getElem?_cons_succ] at h
    rw [List.eraseIdx_cons_succ]
    exact ((perm_eraseIdx t i x h).cons y).trans (List.Perm.swap x y _)
theorem leftOf_push (es : Array MapEntry) (seen : Array Nat) (b : Nat) : (leftOf es (seen.push b)).toList = (leftOf es seen).toList.filter (fun x => x.born != b) := by
  unfold leftOf
  simp only [Array.toList_filter, List.filter_filter]
  congr 1
  funext x
  rw [Bool.eq_iff_iff]
  simp
  constructor
  · rintro ⟨h1, h2⟩; exact ⟨h2, h1⟩
  · rintro ⟨h1, h2⟩; exact ⟨h2, h1⟩

theorem Ranging.next {w : World} {m r : Nat} {L todo : List (Key × Cnt)} (h : Ranging w m r L todo) (ty : TypeId) :
    (todo = [] ∧ (Instr.next (.pointer (some ⟨r, 0, none⟩)) false ty).run Tryz.prog w = .ok (.tuple #[.bool false]) w) ∨
    ∃ (p : Key × Cnt) (todo' : List (Key × Cnt)) (w1 : World), todo.Perm (p :: todo') ∧ (Instr.next (.pointer (some ⟨r, 0, none⟩)) false ty).run Tryz.prog w = .ok (.tuple #[.bool true, keyV p.1, cntV p.2]) w1 ∧
      Ranging w1 m r L todo' ∧ w.grownBy w1 (some r) ∧ w1.heap.size = w.heap.size ∧ (Instr.entry (.pointer (some ⟨r, 0, none⟩))).run Tryz.prog w1 = .ok (.tuple #[keyV p.1, cntV p.2]) w1 := by
  have hlt := h.lt
  obtain ⟨es, clock, since, c0, seen, h1, h2, h3, h4, h5, h6, h7, h8, h9⟩ := h
  rcases run_next_at (P := Tryz.prog) w ty r m since c0 seen es clock h1 h2 h6 h7 with ⟨h0, hrun⟩ | ⟨e, he, w1, hw1, hrun⟩
  · left
    refine ⟨?_, hrun⟩
    have : (leftOf es seen).toList = [] := by simpa [Array.size_eq_zero_iff] using h0
    rw [this] at h9
    simpa using h9.symm
  · right
    obtain ⟨i, hi⟩ := List.mem_iff_getElem?.1 he
    have hti : ∃ p, todo[i]? = some p ∧ (e.key, e.val) = encP p := by
      have e1 : ((leftOf es seen).toList.map (fun e => (e.key, e.val)))[i]? = (todo.map encP)[i]? := by rw [h9]
      rw [List.getElem?_map, List.getElem?_map, hi] at e1
      cases ht : todo[i]? with
      | none => rw [ht] at e1; cases e1
      | some p => rw [ht] at e1; exact ⟨p, rfl, Option.some.inj e1⟩
    obtain ⟨p, hp1, hp2⟩ := hti
    have hk : e.key = keyV p.1 := congrArg Prod.fst hp2
    have hv : e.val = cntV p.2 := congrArg Prod.snd hp2
    have hes : e ∈ es.toList := by unfold leftOf at he; simp at he; exact Array.mem_toList_iff.2 he.1
    have hnd : (es.toList.map (·.born)).Nodup := by
      rw [List.Nodup, List.pairwise_map]; exact h4.imp (fun h => by omega)
    have hsub : (leftOf es seen).toList.Pairwise (fun a b => a.born < b.born) := by
      unfold leftOf; rw [Array.toList_filter]; exact h4.filter _
    have hheap : ∀ k, k ≠ r → (setBlock w1 r (.mapIter (some m) since (seen.push e.born) clock)).heap[k]? = w.heap[k]? := fun k hk' => by
      show (w1.heap.setIfInBounds r _)[k]? = _
      rw [Array.getElem?_setIfInBounds, if_neg (fun h => hk' h.symm)]
      rcases hw1 with rfl | rfl <;> rfl
    have hhr : (setBlock w1 r (.mapIter (some m) since (seen.push e.born) clock)).heap[r]? = some (.mapIter (some m) since (seen.push e.born) clock) := by
      show (w1.heap.setIfInBounds r _)[r]? = _
      rw [Array.getElem?_setIfInBounds, if_pos rfl, if_pos (by rcases hw1 with rfl | rfl <;> exact hlt.2.1)]
    have hhm : (setBlock w1 r (.mapIter (some m) since (seen.push e.born) clock)).heap[m]? = some (.map es clock) := (hheap m hlt.2.2).trans h2
    refine ⟨p, todo.eraseIdx i, _, perm_eraseIdx _ _ _ hp1, by rw [← hk, ← hv]; exact hrun, ?_, ?_, ?_, ?_⟩
    · refine ⟨es, clock, since, clock, _, hhr, hhm, h3, h4, h5, h6, h8, h8, ?_⟩
      rw [leftOf_push, filter_erase _ i e hsub hi]
      have := congrArg (fun l => l.eraseIdx i) h9
      rw [map_eraseIdx', map_eraseIdx'] at this; exact this
    · refine ⟨?_, ?_, ?_, ?_, fun k _ hk' => hheap k (fun e => hk' (by rw [e]))⟩
      · rcases hw1 with rfl | rfl <;> rfl
      · rcases hw1 with rfl | rfl <;> rfl
      · rcases hw1 with rfl | rfl <;> rfl
      · show w.heap.size ≤ (w1.heap.setIfInBounds r _).size
        rw [Array.size_setIfInBounds]; rcases hw1 with rfl | rfl <;> exact Nat.le_refl _
    · show (w1.heap.setIfInBounds r _).size = _
      rw [Array.size_setIfInBounds]; rcases hw1 with rfl | rfl <;> rfl
    · rw [← hk, ← hv]
      exact run_entry_at _ r m since seen es clock e hhr hhm hes hnd

theorem wpList_range_map {w : World} {ops : Array Oper} {rest : List Oper} {o : Oper} {a : Act} {Q : Exit → Act → World → Prop}
    (hg : o.guard = none) (x : Operand) (hop : o.op = Op.range 70 x) {m : Nat} {L : List (Key × Cnt)} (hm : a.eval x = .map (some m)) (h : MapIs w m L)
    (hK : ∀ ob, Ranging (w.alloc ob) m w.heap.size L L → wpList Tryz.prog ops Q rest (a.put o.dst (.pointer (some ⟨w.heap.size, 0, none⟩))) (w.alloc ob)) :
    wpList Tryz.prog ops Q (o :: rest) a w := by
  refine wpList_plain hg fun K' hK' => ?_
  obtain ⟨ob, hrun, hr⟩ := h.range
  unfold Oper.wp
  simp [execOp, hop, hm, hrun, Result.andThen]
  exact hK' _ _ (hK ob hr)

theorem wpList_next_map {w : World} {ops : Array Oper} {rest : List Oper} {o : Oper} {a : Act} {Q : Exit → Act → World → Prop}
    (hg : o.guard = none) (it : Operand) (hop : o.op = Op.next it false) {m r : Nat} {L todo : List (Key × Cnt)} (hit : a.eval it = .pointer (some ⟨r, 0, none⟩)) (h : Ranging w m r L todo)
    (hDone : todo = [] → wpList Tryz.prog ops Q rest (a.put o.dst (.tuple #[.bool false])) w)
    (hMore : ∀ (k1 k2 : Int) (k3 : ByteArray) (c1 c2 : Int) (todo' : List (Key × Cnt)) (w1 : World), todo.Perm (((k1, k2, k3), (c1, c2)) :: todo') → Ranging w1 m r L todo' → w.grownBy w1 (some r) → w1.heap.size = w.heap.size →
      (Instr.entry (.pointer (some ⟨r, 0, none⟩))).run Tryz.prog w1 = .ok (.tuple #[.agg #[.int .i64 k1, .int .i64 k2, .string k3], .agg #[.int .i64 c1, .int .i64 c2]]) w1 →
      wpList Tryz.prog ops Q rest (a.put o.dst (.tuple #[.bool true, .agg #[.int .i64 k1, .int .i64 k2, .string k3], .agg #[.int .i64 c1, .int .i64 c2]])) w1) :
    wpList Tryz.prog ops Q (o :: rest) a w := by
  refine wpList_plain hg fun K' hK' => ?_
  unfold Oper.wp
  rcases h.next o.type with ⟨h0, hrun⟩ | ⟨⟨⟨k1, k2, k3⟩, ⟨c1, c2⟩⟩, todo', w1, hp, hrun, hr, hgr, hsz, hen⟩
  · simp [execOp, hop, hit, hrun, Result.andThen]
    exact hK' _ _ (hDone h0)
  · simp [execOp, hop, hit, hrun, Result.andThen]
    exact hK' _ _ (hMore k1 k2 k3 c1 c2 todo' w1 hp hr hgr hsz hen)
end Go.Proofs.YtlemadbmlnjhpaaGreatDoor
