/- slices.SortFunc at keys; slices.SortedFunc; stats.sorted. -/
import Derived.Test.YtlemadbmlnjhpaaGreatDoorL7
import Derived.Test.YtlemadbmlnjhpaaGreatDoorSortShelf
namespace Go.Proofs.YtlemadbmlnjhpaaGreatDoor
open Go Go.RowKit Go.Proofs Go.Sort
set_option linter.unusedSimpArgs false
set_option linter.unusedVariables false

/-- keys in order -/
def sortK (ks : List Key) : List Key := ks.mergeSort fun x y => !(ltOf cmpK) y x
theorem sortK_perm (ks : List Key) : (sortK ks).Perm ks := List.mergeSort_perm _ _
theorem sortK_length (ks : List Key) : (sortK ks).length = ks.length := (sortK_perm ks).length_eq
theorem sortK_pair (ks : List Key) : (sortK ks).Pairwise fun x y => (!(ltOf cmpK) y x) = true := by
  refine List.pairwise_mergeSort ?_ ?_ _
  · intro a b c h1 h2
    have hO := totC_key.swo
    simp only [Bool.not_eq_true'] at *
    exact hO.ntrans _ _ _ h2 h1
  · intro a b
    have := totC_key.anti a b
    simp only [ltOf, Bool.or_eq_true, Bool.not_eq_true', decide_eq_false_iff_not]
    omega
theorem sortK_of_perm {a b : List Key} (h : a.Perm b) : sortK a = sortK b := by
  refine List.Perm.eq_of_pairwise (le := fun x y => (!(ltOf cmpK) y x) = true) ?_ (sortK_pair a) (sortK_pair b) ((sortK_perm a).trans (h.trans (sortK_perm b).symm))
  intro x y _ _ h1 h2
  simp only [Bool.not_eq_true'] at h1 h2
  exact totC_key.total x y h2 h1

/-- a slice of keys in memory -/
def SliceKey (w : World) (v : Value) (ks : List Key) : Prop :=
  ∃ A c, v = .slice A ks.length c ∧ ks.length ≤ 1000000 ∧ (∀ k x, ks[k]? = some x → ∃ b o, A = some ⟨b, o, none⟩ ∧ w.rangeAt b (o + k * 3) (keyCells x)) ∧
    ∀ b o, A = some ⟨b, o, none⟩ → ∃ cs, w.heap[b]? = some (.cells cs 64 (0, 0))
theorem SliceKey.below {w w' : World} {v : Value} {ks : List Key} (h : SliceKey w v ks) (hb : Below w.heap.size w w') : SliceKey w' v ks := by
  obtain ⟨A, c, h1, h2, h3, h4⟩ := h
  refine ⟨A, c, h1, h2, fun k x hk => ?_, fun b o hA => ?_⟩
  · obtain ⟨b, o, e1, e2⟩ := h3 k x hk
    exact ⟨b, o, e1, fun j v hj => (hb.cell (p := ⟨b, _, none⟩) (World.block_lt_of_cell? w _ (e2 j v hj))).trans (e2 j v hj)⟩
  · obtain ⟨cs, hc⟩ := h4 b o hA
    exact ⟨cs, (hb.block b (Array.getElem?_eq_some_iff.1 hc).1).trans hc⟩

theorem flat_get : ∀ (ss : List Key) (i c : Nat), i < ss.length → c < 3 → (ss.flatMap keyCells)[i * 3 + c]? = some ((keyCells (ss.toArray[i]!))[c]!)
  | [], i, c, h, _ => by simp at h
  | x :: r, 0, c, _, hc => by
    rw [List.flatMap_cons, List.getElem?_append_left (by simp [keyCells]; omega)]
    rcases c with _ | _ | _ | c
    · rfl
    · rfl
    · rfl
    · omega
  | x :: r, i + 1, c, h, hc => by
    have ih := flat_get r i c (by simpa using h) hc
    rw [List.flatMap_cons, List.getElem?_append_right (by simp [keyCells]; omega)]
    have e : (i + 1) * 3 + c - (keyCells x).length = i * 3 + c := by simp [keyCells]; omega
    rw [e, ih]
    simp
theorem holdsK_of_own {w : World} {g : Nat} {cur : Array Value} {ss : List Key} (hb : w.heap[g]? = some (.cells cur 64 (0, 0))) (ht : cur.toList.take (ss.length * 3) = ss.flatMap keyCells) : HoldsK keyCells 3 w g 0 ss.toArray := by
  intro t ht0
  have ht1 : t < ss.length * 3 := by simpa using ht0
  refine ⟨?_, by simp [World.frozen?, hb]⟩
  have h1 : (cur.toList.take (ss.length * 3))[t]? = (ss.flatMap keyCells)[t]? := by rw [ht]
  rw [List.getElem?_take_of_lt ht1] at h1
  have h2 := flat_get ss (t / 3) (t % 3) (by omega) (by omega)
  rw [show t / 3 * 3 + t % 3 = t by omega] at h2
  rw [get_flatK _ _ _ _ (by simpa using ht1)]
  simp only [World.cell?, hb, Nat.zero_add]
  simp only [Option.isSome_none, Bool.false_eq_true, if_false]
  rw [← Array.getElem?_toList, h1, h2]
  rfl
theorem grownBy_sortK {w : World} {g n : Nat} {os : Array Obj} (d : Array Key) : w.grownBy (sortWorldK keyCells 3 w g 0 n d os) (some g) := by
  unfold sortWorldK putRowK
  refine ⟨rfl, rfl, rfl, by simp, fun k hk hne => ?_⟩
  rw [heap_grow_old _ _ (by simpa using hk)]
  have : g ≠ k := fun e => hne (by rw [e])
  simp [putRow, mapBlock, Sort.ahead, Array.getElem?_modify, this]
theorem heap_sortK {w : World} {g n : Nat} {os : Array Obj} {cur : Array Value} {e : TypeId} {fr : Nat × Nat} (d : Array Key) (hb : w.heap[g]? = some (.cells cur e fr)) :
    (sortWorldK keyCells 3 w g 0 n d os).heap[g]? = some (.cells (putCells id 0 (flatK keyCells 3 d) cur) e fr) := by
  have hg : g < w.heap.size := (Array.getElem?_eq_some_iff.1 hb).1
  unfold sortWorldK putRowK
  rw [heap_grow_old _ _ (by simpa using hg)]
  simp [putRow, mapBlock, Sort.ahead, Array.getElem?_modify, hb, onCells]
theorem Tryz.isAggKey (w : World) : (isAgg 64).run Tryz.prog w = .ok true w := by kernel_rfl
theorem Tryz.sizeKey (w : World) : (Go.sizeOf 64).run Tryz.prog w = .ok 3 w := by kernel_rfl

theorem sortFunc_any (v : Value) (ss : List Key) (base : Nat) (w : World) (hown : w.ownsRow base 64 3 v ss.length (ss.flatMap keyCells)) (hl : ss.length ≤ 1000000) :
    Calls Tryz.prog 83 #[v, .func (.func 63) #[] #[]] w fun e w' => e = .returned (.tuple #[]) ∧ SliceKey w' v (sortK ss) ∧ (base ≤ w.heap.size → Below base w w') := by
  rcases hown.2 with ⟨rfl, hz⟩ | ⟨g, cap, cur, rfl, hbase, hgb, r1, r2, r3, r4⟩
  · have hss : ss = [] := List.eq_nil_of_length_eq_zero hz
    subst hss
    refine (AnyF.slices_SortFunc_none { Tryz.sortLays with } none 0 (.func (.func 63) #[] #[]) w).mono ?_
    rintro e w' ⟨rfl, rfl⟩
    exact ⟨rfl, ⟨none, 0, by simp [sortK], by simp [sortK], fun k x hk => by simp [sortK] at hk, fun b o h => nomatch h⟩, fun _ => Below.refl _ _⟩
  · have hgl : g < w.heap.size := (Array.getElem?_eq_some_iff.1 hgb).1
    have hH : HoldsK keyCells 3 w g 0 ss.toArray := holdsK_of_own hgb r4
    have hs := AnyQ.slices_SortFunc_total Tryz.sortLays 3 Tryz.isAggKey Tryz.sizeKey keyCells (fun _ => rfl) keyCells_one cmpK totC_key.swo 63 #[] g 0 cap ss.toArray w compare_enters (cmp_lays g 0 ss.toArray.size w) hH hgl (by simp; omega) totC_key.total
    have hs' : Calls Tryz.prog 83 #[.slice (some ⟨g, 0, none⟩) ss.length cap, .func (.func 63) #[] #[]] w fun e w' => e = .returned (.tuple #[]) ∧ ∃ n os, w' = sortWorldK keyCells 3 w g 0 n (sortK ss).toArray os := hs
    refine hs'.mono ?_
    rintro e w' ⟨rfl, n, os, rfl⟩
    have hH' := holdsK_sortWorldK_c keyCells 3 w g 0 ss.toArray (sortK ss).toArray n os hH hgl (by simp [sortK_length])
    refine ⟨rfl, ⟨some ⟨g, 0, none⟩, cap, by rw [sortK_length], by rw [sortK_length]; exact hl, fun k x hk => ⟨g, 0, rfl, fun j u hj => ?_⟩, fun b o h => ?_⟩, fun hbs => (Below.refl _ _).grown (grownBy_sortK _) hbs (fun j hj => by cases hj; exact hbase)⟩
    rotate_left
    · obtain ⟨rfl, rfl⟩ : g = b ∧ 0 = o := by injection h with h; injection h with h1 h2 _; exact ⟨h1, h2⟩
      exact ⟨_, heap_sortK _ hgb⟩
    have hkl : k < (sortK ss).length := (List.getElem?_eq_some_iff.1 hk).1
    have hj3 : j < 3 := (List.getElem?_eq_some_iff.1 hj).1
    have hc := (hH'.cell (i := k) (c := j) (by simpa using hkl) hj3).1
    rw [hc]
    have e1 : (sortK ss).toArray[k]! = x := by
      rw [List.getElem!_toArray, List.getElem!_eq_getElem?_getD, hk]; rfl
    rw [e1, List.getElem!_eq_getElem?_getD, hj]; rfl

set_option maxHeartbeats 1000000 in
theorem sortedFunc_any (g : Nat) (lb : Array Value) (eg : ∀ args w, (callFunc g args).run Tryz.prog w = .ok (.enter g args) w)
    (ks : List Key) (N : Nat) (hN : N ≤ 1000000) (hk : ks.length ≤ 1000000) (w : World) (hseq : SeqGives Fence.wide 1 Tryz.prog g lb keyV (fun ss => ss.Perm ks) N w) :
    Calls Tryz.prog 61 #[.func (.func g) #[] lb, .func (.func 63) #[] #[]] w fun e w' => ∃ v, e = .returned v ∧ SliceKey w' v (sortK ks) ∧ Below w.heap.size w w' := by
  have hA := collect_any g lb eg _ N hN w hseq
  have hA' := Lib.hid hA
  have hk' := Lib.hid hk
  clear hA hseq hk
  go_enter Tryz.func61, Tryz.ntmps61
  go_wp2_with (go_at_call 82; fail)
  refine hA'.out.mono ?_
  rintro e w1 ⟨v, ss, rfl, hS, hrow, hnil, hb⟩
  have hrow' := Lib.hid hrow
  have hS' := Lib.hid hS
  have hb' := Lib.hid hb
  clear hrow hS hb hnil
  go_wp2_with (go_at_call 83; fail)
  refine (sortFunc_any v ss w.heap.size w1 hrow'.out (by rw [hS'.out.length_eq]; exact hk'.out)).mono ?_
  rintro e w2 ⟨rfl, hsk, hb2⟩
  have hsk' := Lib.hid hsk
  have hb2' := Lib.hid (hb'.out.trans (hb2 hb'.out.size))
  clear hsk hb2
  go_wp2_with fail
  go_ret
  exact ⟨_, rfl, by rw [← sortK_of_perm hS'.out]; exact hsk'.out, hb2'.out⟩

theorem keys1_enters : ∀ (args : Array Value) (w : World), Sem.run Tryz.prog (callFunc 84 args) w = Result.ok (Next.enter 84 args) w :=
  enters_of Tryz.func84 (by kernel_rfl) rfl
set_option maxHeartbeats 1000000 in
theorem sorted_any (sb m : Nat) (L : List (Key × Cnt)) (zs : List Int) (w : World) (h : StatsAt w sb m L zs) (hl : L.length ≤ 1000000) :
    Calls Tryz.prog 36 #[.pointer (some ⟨sb, 0, none⟩)] w fun e w' => ∃ v, e = .returned v ∧ SliceKey w' v (sortK (L.map Prod.fst)) ∧ Below w.heap.size w w' := by
  have hc0 := h.cell0
  have hm := Lib.hid h.2.2
  have hl' := Lib.hid hl
  clear h hl
  go_enter Tryz.func36, Tryz.ntmps36
  go_wp2_with (go_at_call 62; fail)
  refine (keys_any _ _).mono ?_
  rintro e w1 ⟨rfl, hw1⟩
  have hb1 : Below w.heap.size w w1 := by rw [hw1]; exact (Below.refl _ _).alloc (Nat.le_refl _) _
  have hcell : w1.cell? ⟨w.heap.size, 0, none⟩ = some (.map (some m)) := by rw [hw1, cell_of_row _ _ _ _ _ _ (heap_alloc_new w _)]; rfl
  have hseq := keys_gives Fence.wide 1 trivial rfl (Nat.le_refl _) w.heap.size m L w1 hcell (hm.out.below hb1 hm.out.lt)
  have hseq' := Lib.hid hseq
  have hb1' := Lib.hid hb1
  clear hseq hb1 hcell hw1 hc0
  go_wp2_with (go_at_call 61; fail)
  refine (sortedFunc_any _ _ keys1_enters (L.map Prod.fst) L.length hl'.out (by simpa using hl'.out) w1 hseq'.out).mono ?_
  rintro e w2 ⟨v, rfl, hsk, hb2⟩
  have hsk' := Lib.hid hsk
  have hb2' := Lib.hid (hb1'.out.trans (hb2.mono hb1'.out.size))
  clear hsk hb2
  go_wp2_with fail
  go_ret
  exact ⟨_, rfl, hsk'.out, hb2'.out⟩
end Go.Proofs.YtlemadbmlnjhpaaGreatDoor
