/- The map of an index: its keys are groups; what a look-up and a store do to it. -/
import Derived.Test.YtnniijnfkbkdcaaGreatDoorO5
import Derived.Laws.StructEq
import Derived.ChangeMaps
import Derived.Maps.RangeRun
import Derived.MapKept
namespace Go.Proofs.YtnniijnfkbkdcaaGreatDoor
open Go Go.RowKit Go.Proofs
open Go.ChangeMaps (setBlock)
set_option linter.unusedSimpArgs false
set_option linter.unusedVariables false

def encP (p : ByteArray × Value) : Value × Value := (.string p.1, p.2)
def keyEq (a b : ByteArray) : Bool := a == b
theorem keyEq_iff (a b : ByteArray) : keyEq a b = true ↔ a = b := by
  unfold keyEq
  obtain ⟨x⟩ := a
  obtain ⟨y⟩ := b
  show (x == y) = true ↔ _
  rw [beq_iff_eq]
  exact ⟨fun h => by rw [h], fun h => by injection h⟩
theorem Tryz.check_key (em : Bool) (k : ByteArray) (w : World) : (Instr.checkKey em 10000 9 (.string k)).run Tryz.prog w = .ok () w := by kernel_rfl
theorem Tryz.zero_lines (w : World) : (zeroValue 94).run Tryz.prog w = .ok (.slice none 0 0) w := by kernel_rfl

/-- where a key stands first -/
def findL (k : ByteArray) : List (ByteArray × Value) → Nat → Option (Nat × Value)
  | [], _ => none
  | p :: r, i => if keyEq k p.1 then some (i, p.2) else findL k r (i + 1)
def putL (k : ByteArray) (c : Value) : List (ByteArray × Value) → List (ByteArray × Value)
  | [] => [(k, c)]
  | p :: r => if keyEq k p.1 then (k, c) :: r else p :: putL k c r
def getL (k : ByteArray) (L : List (ByteArray × Value)) : Value := ((findL k L 0).map Prod.snd).getD (.slice none 0 0)

theorem findNow_str (k : ByteArray) : ∀ (es : List MapEntry) (L : List (ByteArray × Value)) (i : Nat), es.map (fun e => (e.key, e.val)) = L.map encP → Instr.findNow .string (.string k) es i = some (findL k L i)
  | [], [], i, _ => rfl
  | [], p :: r, i, h => by simp at h
  | e :: es, [], i, h => by simp at h
  | e :: es, p :: r, i, h => by
    simp only [List.map_cons, List.cons.injEq] at h
    obtain ⟨h1, h2⟩ := h
    have hk : e.key = .string p.1 := congrArg Prod.fst h1
    have hv : e.val = p.2 := congrArg Prod.snd h1
    have ih := findNow_str k es r (i + 1) h2
    unfold Instr.findNow findL
    rw [hk]
    show (match some (k == p.1) with | some true => some (some (i, e.val)) | some false => Instr.findNow .string (.string k) es (i + 1) | none => none) = _
    unfold keyEq
    cases hq : (k == p.1) with
    | true => simp [hv]
    | false => simpa using ih
theorem Tryz.run_findKey (k : ByteArray) (w : World) (es : List MapEntry) (L : List (ByteArray × Value)) (h : es.map (fun e => (e.key, e.val)) = L.map encP) :
    (Instr.findKey 9 (.string k) es).run Tryz.prog w = .ok (findL k L 0) w := by
  unfold Instr.findKey
  simp only [Sem.run_bind]
  rw [run_underlying Tryz.underlying9]
  simp only [Result.andThen, findNow_str k es L 0 h, Sem.run_pure]

def MapIs (w : World) (m : Nat) (L : List (ByteArray × Value)) : Prop :=
  ∃ (es : Array MapEntry) (clock : Nat), w.heap[m]? = some (.map es clock) ∧ es.toList.map (fun e => (e.key, e.val)) = L.map encP ∧ es.toList.Pairwise (fun a b => a.born < b.born) ∧ ∀ e ∈ es.toList, e.born < clock
theorem MapIs.block {w w' : World} {m : Nat} {L : List (ByteArray × Value)} (h : MapIs w m L) (hb : w'.heap[m]? = w.heap[m]?) : MapIs w' m L := by
  obtain ⟨es, clock, h1, h2⟩ := h
  exact ⟨es, clock, hb.trans h1, h2⟩
theorem MapIs.below {w w' : World} {B m : Nat} {L : List (ByteArray × Value)} (h : MapIs w m L) (hb : Below B w w') (hm : m < B) : MapIs w' m L := h.block (hb.block m hm)
theorem MapIs.lt {w : World} {m : Nat} {L : List (ByteArray × Value)} (h : MapIs w m L) : m < w.heap.size := by
  obtain ⟨es, clock, h1, _⟩ := h
  exact (Array.getElem?_eq_some_iff.1 h1).1
theorem MapIs.made (w : World) : MapIs (w.alloc (.map #[] 0)) w.heap.size [] :=
  ⟨#[], 0, heap_alloc_new w _, rfl, by simp, by simp⟩

theorem MapIs.lookup {w : World} {m : Nat} {L : List (ByteArray × Value)} (h : MapIs w m L) (k : ByteArray) :
    (Instr.lookup 89 (.map (some m)) (.string k) false).run Tryz.prog w = .ok (getL k L) w := by
  obtain ⟨es, clock, h1, h2, _⟩ := h
  have hf := Tryz.run_findKey k w es.toList L h2
  have hc := Tryz.check_key es.isEmpty k w
  unfold getL
  cases hq : findL k L 0 with
  | none =>
    rw [hq] at hf
    simp [Instr.lookup, run_underlying Tryz.underlying89, MapKept.run_getObj_map h1, hc, hf, Result.andThen, Sem.run_pure, Tryz.zero_lines]
  | some p =>
    rw [hq] at hf
    simp [Instr.lookup, run_underlying Tryz.underlying89, MapKept.run_getObj_map h1, hc, hf, Result.andThen, Sem.run_pure]

theorem findL_none {k : ByteArray} : ∀ {L : List (ByteArray × Value)} {i : Nat} (c : Value), findL k L i = none → putL k c L = L ++ [(k, c)]
  | [], _, _, _ => rfl
  | p :: r, i, c, h => by
    unfold findL at h
    by_cases hq : keyEq k p.1 = true
    · rw [if_pos hq] at h; cases h
    · rw [if_neg hq] at h
      unfold putL
      rw [if_neg hq, findL_none c h]; rfl
theorem findL_some {k : ByteArray} : ∀ {L : List (ByteArray × Value)} {i j : Nat} {d : Value} (c : Value), findL k L i = some (j, d) → i ≤ j ∧ (∃ p, L[j - i]? = some p ∧ p.1 = k) ∧ putL k c L = L.set (j - i) (k, c)
  | [], _, _, _, _, h => by cases h
  | p :: r, i, j, d, c, h => by
    unfold findL at h
    by_cases hq : keyEq k p.1 = true
    · rw [if_pos hq] at h
      obtain ⟨rfl, rfl⟩ := Prod.mk.inj (Option.some.inj h)
      unfold putL
      rw [if_pos hq, Nat.sub_self]
      exact ⟨Nat.le_refl _, ⟨p, rfl, ((keyEq_iff _ _).1 hq).symm⟩, rfl⟩
    · rw [if_neg hq] at h
      obtain ⟨h1, ⟨q, h2, h3⟩, h4⟩ := findL_some c h
      have e : j - i = (j - (i + 1)) + 1 := by omega
      unfold putL
      rw [if_neg hq, h4, e]
      exact ⟨by omega, ⟨q, by simpa using h2, h3⟩, rfl⟩
theorem same_key (k : ByteArray) : Instr.sameBits 10000 (.string k) (.string k) = true := by
  simp [Instr.sameBits, beq_toListBytes]

theorem MapIs.update {w : World} {m : Nat} {L : List (ByteArray × Value)} (h : MapIs w m L) (k : ByteArray) (c : Value) :
    ∃ w', (Instr.mapUpdate 89 (.map (some m)) (.string k) (c)).run Tryz.prog w = .ok () w' ∧ MapIs w' m (putL k c L) ∧ w.grownBy w' (some m) := by
  obtain ⟨es, clock, h1, h2, h3, h4⟩ := h
  have hf := Tryz.run_findKey k w es.toList L h2
  have hc := Tryz.check_key false k w
  have hgrow : ∀ o, w.grownBy (setBlock w m o) (some m) := fun o =>
    ⟨rfl, rfl, rfl, by simp [setBlock], fun i _ hi => by
      show (w.heap.setIfInBounds m o)[i]? = _
      rw [Array.getElem?_setIfInBounds]
      rw [if_neg (fun e => hi (by rw [e]))]⟩
  have hset : ∀ o, (setBlock w m o).heap[m]? = some o := fun o => by
    show (w.heap.setIfInBounds m o)[m]? = _
    rw [Array.getElem?_setIfInBounds, if_pos rfl, if_pos (Array.getElem?_eq_some_iff.1 h1).1]
  cases hq : findL k L 0 with
  | none =>
    rw [hq] at hf
    refine ⟨setBlock w m (.map (es.push { key := (.string k), val := c, born := clock }) (clock + 1)), ?_, ⟨_, _, hset _, ?_, ?_, ?_⟩, hgrow _⟩
    · simp [Instr.mapUpdate, run_underlying Tryz.underlying89, MapKept.run_getObj_map h1, hc, hf, MapKept.run_setObj_map _ h1, Result.andThen, setBlock]
    · rw [findL_none c hq]; simp [h2, encP]
    · rw [Array.toList_push, List.pairwise_append]
      exact ⟨h3, by simp, fun a ha b hb => by simp at hb; subst hb; exact h4 a ha⟩
    · intro e he
      rw [Array.toList_push, List.mem_append] at he
      rcases he with he | he
      · have := h4 e he; omega
      · simp at he; subst he; simp
  | some p =>
    obtain ⟨j, d⟩ := p
    rw [hq] at hf
    obtain ⟨_, ⟨q, hq1, hq2⟩, hq3⟩ := findL_some c hq
    simp only [Nat.sub_zero] at hq1 hq3
    have hej : ∃ e, es[j]? = some e ∧ e.key = (.string k) := by
      have e1 : (es.toList.map (fun e => (e.key, e.val)))[j]? = some (encP q) := by rw [h2, List.getElem?_map, hq1]; rfl
      rw [List.getElem?_map] at e1
      cases he : es.toList[j]? with
      | none => rw [he] at e1; cases e1
      | some e =>
        rw [he] at e1
        refine ⟨e, by simpa using he, ?_⟩
        have := congrArg Prod.fst (Option.some.inj e1)
        rw [← hq2]; exact this
    obtain ⟨e, he1, he2⟩ := hej
    have hstay : (Instr.keyThatStays (.string k) (.string k)).run Tryz.prog w = .ok (.string k) w := by
      unfold Instr.keyThatStays; rw [same_key]; simp [Sem.run_pure]
    refine ⟨setBlock w m (.map (es.modify j fun e => { e with key := (.string k), val := c }) clock), ?_, ⟨_, _, hset _, ?_, ?_, ?_⟩, hgrow _⟩
    · simp [Instr.mapUpdate, run_underlying Tryz.underlying89, MapKept.run_getObj_map h1, hc, hf, he1, he2, hstay, MapKept.run_setObj_map _ h1, Result.andThen, setBlock]
    · rw [Array.toList_modify, hq3]
      have h5 : es.toList[j]? = some e := by simpa using he1
      apply List.ext_getElem?
      intro i
      rw [List.getElem?_map, List.getElem?_modify, List.getElem?_map, List.getElem?_set]
      by_cases hij : j = i
      · subst hij
        have hjl : j < L.length := (List.getElem?_eq_some_iff.1 hq1).1
        rw [h5, if_pos rfl, if_pos hjl]; simp [encP]
      · have e2 : (es.toList.map (fun e => (e.key, e.val)))[i]? = (L.map encP)[i]? := by rw [h2]
        rw [List.getElem?_map, List.getElem?_map] at e2
        rw [if_neg hij, ← e2]
        simp [hij]
    · rw [Array.toList_modify]
      have : ((es.toList.modify j fun e => { e with key := (.string k), val := c }).map (·.born)) = es.toList.map (·.born) := by
        apply List.ext_getElem?
        intro i
        rw [List.getElem?_map, List.getElem?_modify, List.getElem?_map]
        cases es.toList[i]? with
        | none => rfl
        | some x => by_cases hij : j = i <;> simp [hij]
      have h6 : (es.toList.map (·.born)).Pairwise (· < ·) := by rw [List.pairwise_map]; exact h3
      rw [← this, List.pairwise_map] at h6
      exact h6
    · intro x hx
      rw [Array.toList_modify] at hx
      obtain ⟨i, hi⟩ := List.mem_iff_getElem?.1 hx
      rw [List.getElem?_modify] at hi
      cases hy : es.toList[i]? with
      | none => rw [hy] at hi; cases hi
      | some y =>
        rw [hy] at hi
        have hb := h4 y (List.mem_of_getElem? hy)
        by_cases hij : j = i
        · simp [hij] at hi; subst hi; exact hb
        · simp [hij] at hi; subst hi; exact hb

end Go.Proofs.YtnniijnfkbkdcaaGreatDoor
