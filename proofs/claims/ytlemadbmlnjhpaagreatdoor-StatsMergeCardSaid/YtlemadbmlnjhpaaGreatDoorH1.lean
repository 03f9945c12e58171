/- slices.SortFunc at keys; slices.SortedFunc; stats.sorted. -/
/- Days: the days of the keys of all articles, in order. -/
/- append of any source to a slice of the call's own, at a step of a region that draws its order. -/
/- The model's days. -/
import Derived.Test.YtlemadbmlnjhpaaGreatDoorG9
import Derived.Test.YtlemadbmlnjhpaaGreatDoorSortShelf
import Derived.Deep.RegionHeld3
import Derived.Deep.AppendLies
import Derived.Deep.DrawnRows
import Derived.Laws.OwnMore
namespace Go.Proofs.YtlemadbmlnjhpaaGreatDoor
open Go Go.RowKit Go.Proofs Go.Sort
set_option linter.unusedSimpArgs false
set_option linter.unusedVariables false

/-- keys in order -/
def sortK (ks : List Key) : List Key := ks.mergeSort fun x y => !(ltOf cmpK) y x
theorem sortK_perm (ks : List Key) : (sortK ks).Perm ks := List.mergeSort_perm _ _
theorem sortK_length (ks : List Key) : (sortK ks).length = ks.length := (sortK_perm ks).length_eq
theorem sortK_pair (ks : List Key) : (sortK ks).Pairwise fun x y => (!(ltOf cmpK) y x) = true := by
  refine List.pairwise_mergeSort ?_ ?_ _
  · intro a b c h1 h2
    have hO := totC_key.swo
    simp only [Bool.not_eq_true'] at *
    exact hO.ntrans _ _ _ h2 h1
  · intro a b
    have := totC_key.anti a b
    simp only [ltOf, Bool.or_eq_true, Bool.not_eq_true', decide_eq_false_iff_not]
    omega
theorem sortK_of_perm {a b : List Key} (h : a.Perm b) : sortK a = sortK b := by
  refine List.Perm.eq_of_pairwise (le := fun x y => (!(ltOf cmpK) y x) = true) ?_ (sortK_pair a) (sortK_pair b) ((sortK_perm a).trans (h.trans (sortK_perm b).symm))
  intro x y _ _ h1 h2
  simp only [Bool.not_eq_true'] at h1 h2
  exact totC_key.total x y h2 h1

/-- a slice of keys in memory -/
def SliceKey (w : World) (v : Value) (ks : List Key) : Prop :=
  ∃ A c, v = .slice A ks.length c ∧ ks.length ≤ 1000000 ∧ (∀ k x, ks[k]? = some x → ∃ b o, A = some ⟨b, o, none⟩ ∧ w.rangeAt b (o + k * 3) (keyCells x)) ∧
    ∀ b o, A = some ⟨b, o, none⟩ → ∃ cs, w.heap[b]? = some (.cells cs 64 (0, 0))
theorem SliceKey.below {w w' : World} {v : Value} {ks : List Key} (h : SliceKey w v ks) (hb : Below w.heap.size w w') : SliceKey w' v ks := by
  obtain ⟨A, c, h1, h2, h3, h4⟩ := h
  refine ⟨A, c, h1, h2, fun k x hk => ?_, fun b o hA => ?_⟩
  · obtain ⟨b, o, e1, e2⟩ := h3 k x hk
    exact ⟨b, o, e1, fun j v hj => (hb.cell (p := ⟨b, _, none⟩) (World.block_lt_of_cell? w _ (e2 j v hj))).trans (e2 j v hj)⟩
  · obtain ⟨cs, hc⟩ := h4 b o hA
    exact ⟨cs, (hb.block b (Array.getElem?_eq_some_iff.1 hc).1).trans hc⟩

theorem flat_get : ∀ (ss : List Key) (i c : Nat), i < ss.length → c < 3 → (ss.flatMap keyCells)[i * 3 + c]? = some ((keyCells (ss.toArray[i]!))[c]!)
  | [], i, c, h, _ => by simp at h
  | x :: r, 0, c, _, hc => by
    rw [List.flatMap_cons, List.getElem?_append_left (by simp [keyCells]; omega)]
    rcases c with _ | _ | _ | c
    · rfl
    · rfl
    · rfl
    · omega
  | x :: r, i + 1, c, h, hc => by
    have ih := flat_get r i c (by simpa using h) hc
    rw [List.flatMap_cons, List.getElem?_append_right (by simp [keyCells]; omega)]
    have e : (i + 1) * 3 + c - (keyCells x).length = i * 3 + c := by simp [keyCells]; omega
    rw [e, ih]
    simp
theorem holdsK_of_own {w : World} {g : Nat} {cur : Array Value} {ss : List Key} (hb : w.heap[g]? = some (.cells cur 64 (0, 0))) (ht : cur.toList.take (ss.length * 3) = ss.flatMap keyCells) : HoldsK keyCells 3 w g 0 ss.toArray := by
  intro t ht0
  have ht1 : t < ss.length * 3 := by simpa using ht0
  refine ⟨?_, by simp [World.frozen?, hb]⟩
  have h1 : (cur.toList.take (ss.length * 3))[t]? = (ss.flatMap keyCells)[t]? := by rw [ht]
  rw [List.getElem?_take_of_lt ht1] at h1
  have h2 := flat_get ss (t / 3) (t % 3) (by omega) (by omega)
  rw [show t / 3 * 3 + t % 3 = t by omega] at h2
  rw [get_flatK _ _ _ _ (by simpa using ht1)]
  simp only [World.cell?, hb, Nat.zero_add]
  simp only [Option.isSome_none, Bool.false_eq_true, if_false]
  rw [← Array.getElem?_toList, h1, h2]
  rfl
theorem grownBy_sortK {w : World} {g n : Nat} {os : Array Obj} (d : Array Key) : w.grownBy (sortWorldK keyCells 3 w g 0 n d os) (some g) := by
  unfold sortWorldK putRowK
  refine ⟨rfl, rfl, rfl, by simp, fun k hk hne => ?_⟩
  rw [heap_grow_old _ _ (by simpa using hk)]
  have : g ≠ k := fun e => hne (by rw [e])
  simp [putRow, mapBlock, Sort.ahead, Array.getElem?_modify, this]
theorem heap_sortK {w : World} {g n : Nat} {os : Array Obj} {cur : Array Value} {e : TypeId} {fr : Nat × Nat} (d : Array Key) (hb : w.heap[g]? = some (.cells cur e fr)) :
    (sortWorldK keyCells 3 w g 0 n d os).heap[g]? = some (.cells (putCells id 0 (flatK keyCells 3 d) cur) e fr) := by
  have hg : g < w.heap.size := (Array.getElem?_eq_some_iff.1 hb).1
  unfold sortWorldK putRowK
  rw [heap_grow_old _ _ (by simpa using hg)]
  simp [putRow, mapBlock, Sort.ahead, Array.getElem?_modify, hb, onCells]
theorem Tryz.isAggKey (w : World) : (isAgg 64).run Tryz.prog w = .ok true w := by kernel_rfl
theorem Tryz.sizeKey (w : World) : (Go.sizeOf 64).run Tryz.prog w = .ok 3 w := by kernel_rfl

theorem sortFunc_any (v : Value) (ss : List Key) (base : Nat) (w : World) (hown : w.ownsRow base 64 3 v ss.length (ss.flatMap keyCells)) (hl : ss.length ≤ 1000000) :
    Calls Tryz.prog 83 #[v, .func (.func 63) #[] #[]] w fun e w' => e = .returned (.tuple #[]) ∧ SliceKey w' v (sortK ss) ∧ (base ≤ w.heap.size → Below base w w') := by
  rcases hown.2 with ⟨rfl, hz⟩ | ⟨g, cap, cur, rfl, hbase, hgb, r1, r2, r3, r4⟩
  · have hss : ss = [] := List.eq_nil_of_length_eq_zero hz
    subst hss
    refine (AnyF.slices_SortFunc_none { Tryz.sortLays with } none 0 (.func (.func 63) #[] #[]) w).mono ?_
    rintro e w' ⟨rfl, rfl⟩
    exact ⟨rfl, ⟨none, 0, by simp [sortK], by simp [sortK], fun k x hk => by simp [sortK] at hk, fun b o h => nomatch h⟩, fun _ => Below.refl _ _⟩
  · have hgl : g < w.heap.size := (Array.getElem?_eq_some_iff.1 hgb).1
    have hH : HoldsK keyCells 3 w g 0 ss.toArray := holdsK_of_own hgb r4
    have hs := AnyQ.slices_SortFunc_total Tryz.sortLays 3 Tryz.isAggKey Tryz.sizeKey keyCells (fun _ => rfl) keyCells_one cmpK totC_key.swo 63 #[] g 0 cap ss.toArray w compare_enters (cmp_lays g 0 ss.toArray.size w) hH hgl (by simp; omega) totC_key.total
    have hs' : Calls Tryz.prog 83 #[.slice (some ⟨g, 0, none⟩) ss.length cap, .func (.func 63) #[] #[]] w fun e w' => e = .returned (.tuple #[]) ∧ ∃ n os, w' = sortWorldK keyCells 3 w g 0 n (sortK ss).toArray os := hs
    refine hs'.mono ?_
    rintro e w' ⟨rfl, n, os, rfl⟩
    have hH' := holdsK_sortWorldK_c keyCells 3 w g 0 ss.toArray (sortK ss).toArray n os hH hgl (by simp [sortK_length])
    refine ⟨rfl, ⟨some ⟨g, 0, none⟩, cap, by rw [sortK_length], by rw [sortK_length]; exact hl, fun k x hk => ⟨g, 0, rfl, fun j u hj => ?_⟩, fun b o h => ?_⟩, fun hbs => (Below.refl _ _).grown (grownBy_sortK _) hbs (fun j hj => by cases hj; exact hbase)⟩
    rotate_left
    · obtain ⟨rfl, rfl⟩ : g = b ∧ 0 = o := by injection h with h; injection h with h1 h2 _; exact ⟨h1, h2⟩
      exact ⟨_, heap_sortK _ hgb⟩
    have hkl : k < (sortK ss).length := (List.getElem?_eq_some_iff.1 hk).1
    have hj3 : j < 3 := (List.getElem?_eq_some_iff.1 hj).1
    have hc := (hH'.cell (i := k) (c := j) (by simpa using hkl) hj3).1
    rw [hc]
    have e1 : (sortK ss).toArray[k]! = x := by
      rw [List.getElem!_toArray, List.getElem!_eq_getElem?_getD, hk]; rfl
    rw [e1, List.getElem!_eq_getElem?_getD, hj]; rfl

set_option maxHeartbeats 1000000 in
theorem sortedFunc_any (g : Nat) (lb : Array Value) (eg : ∀ args w, (callFunc g args).run Tryz.prog w = .ok (.enter g args) w)
    (ks : List Key) (N : Nat) (hN : N ≤ 1000000) (hk : ks.length ≤ 1000000) (w : World) (hseq : SeqGives Fence.wide 1 Tryz.prog g lb keyV (fun ss => ss.Perm ks) N w) :
    Calls Tryz.prog 61 #[.func (.func g) #[] lb, .func (.func 63) #[] #[]] w fun e w' => ∃ v, e = .returned v ∧ SliceKey w' v (sortK ks) ∧ Below w.heap.size w w' := by
  have hA := collect_any g lb eg _ N hN w hseq
  have hA' := Lib.hid hA
  have hk' := Lib.hid hk
  clear hA hseq hk
  go_enter Tryz.func61, Tryz.ntmps61
  go_wp2_with (go_at_call 82; fail)
  refine hA'.out.mono ?_
  rintro e w1 ⟨v, ss, rfl, hS, hrow, hnil, hb⟩
  have hrow' := Lib.hid hrow
  have hS' := Lib.hid hS
  have hb' := Lib.hid hb
  clear hrow hS hb hnil
  go_wp2_with (go_at_call 83; fail)
  refine (sortFunc_any v ss w.heap.size w1 hrow'.out (by rw [hS'.out.length_eq]; exact hk'.out)).mono ?_
  rintro e w2 ⟨rfl, hsk, hb2⟩
  have hsk' := Lib.hid hsk
  have hb2' := Lib.hid (hb'.out.trans (hb2 hb'.out.size))
  clear hsk hb2
  go_wp2_with fail
  go_ret
  exact ⟨_, rfl, by rw [← sortK_of_perm hS'.out]; exact hsk'.out, hb2'.out⟩

theorem keys1_enters : ∀ (args : Array Value) (w : World), Sem.run Tryz.prog (callFunc 84 args) w = Result.ok (Next.enter 84 args) w :=
  enters_of Tryz.func84 (by kernel_rfl) rfl
set_option maxHeartbeats 1000000 in
theorem sorted_any (sb m : Nat) (L : List (Key × Cnt)) (zs : List Int) (w : World) (h : StatsAt w sb m L zs) (hl : L.length ≤ 1000000) :
    Calls Tryz.prog 36 #[.pointer (some ⟨sb, 0, none⟩)] w fun e w' => ∃ v, e = .returned v ∧ SliceKey w' v (sortK (L.map Prod.fst)) ∧ Below w.heap.size w w' := by
  have hc0 := h.cell0
  have hm := Lib.hid h.2.2
  have hl' := Lib.hid hl
  clear h hl
  go_enter Tryz.func36, Tryz.ntmps36
  go_wp2_with (go_at_call 62; fail)
  refine (keys_any _ _).mono ?_
  rintro e w1 ⟨rfl, hw1⟩
  have hb1 : Below w.heap.size w w1 := by rw [hw1]; exact (Below.refl _ _).alloc (Nat.le_refl _) _
  have hcell : w1.cell? ⟨w.heap.size, 0, none⟩ = some (.map (some m)) := by rw [hw1, cell_of_row _ _ _ _ _ _ (heap_alloc_new w _)]; rfl
  have hseq := keys_gives Fence.wide 1 trivial rfl (Nat.le_refl _) w.heap.size m L w1 hcell (hm.out.below hb1 hm.out.lt)
  have hseq' := Lib.hid hseq
  have hb1' := Lib.hid hb1
  clear hseq hb1 hcell hw1 hc0
  go_wp2_with (go_at_call 61; fail)
  refine (sortedFunc_any _ _ keys1_enters (L.map Prod.fst) L.length hl'.out (by simpa using hl'.out) w1 hseq'.out).mono ?_
  rintro e w2 ⟨v, rfl, hsk, hb2⟩
  have hsk' := Lib.hid hsk
  have hb2' := Lib.hid (hb1'.out.trans (hb2.mono hb1'.out.size))
  clear hsk hb2
  go_wp2_with fail
  go_ret
  exact ⟨_, rfl, hsk'.out, hb2'.out⟩
end Go.Proofs.YtlemadbmlnjhpaaGreatDoor
namespace Go.Proofs.YtlemadbmlnjhpaaGreatDoor
open Go Go.RowKit Go.Proofs
set_option linter.unusedSimpArgs false
set_option linter.unusedVariables false

theorem own_sliceInt {w : World} {base : Nat} {e : TypeId} {v : Value} {zs : List Int} (h : w.ownsRow base e 1 v zs.length (zs.map (Value.int .i64))) (hl : zs.length ≤ 1000000) : SliceInt w v zs := by
  rcases h.2 with ⟨rfl, h0⟩ | ⟨g, cap, cur, rfl, hb', hg, h4, h5, h6, h7⟩
  · exact .inl ⟨none, 0, rfl, List.eq_nil_of_length_eq_zero h0⟩
  · refine .inr ⟨g, 0, cap, rfl, ⟨by unfold maxLen at h5; omega, h4⟩, (Array.getElem?_eq_some_iff.1 hg).1, fun j hj => ?_⟩
    rw [Nat.zero_add, h.cellAt j (by omega)]
    simp [List.getElem?_eq_getElem hj]
def dayL (ks : List Key) : List Int := (ks.filter fun k => k.2.1 == 0).map fun k => k.1
theorem dayL_snoc (ks : List Key) (x : Key) : dayL (ks ++ [x]) = if x.2.1 = 0 then dayL ks ++ [x.1] else dayL ks := by
  unfold dayL
  rw [List.filter_append]
  by_cases h : x.2.1 = 0 <;> simp [h]
theorem dayL_len (ks : List Key) : (dayL ks).length ≤ ks.length := by unfold dayL; rw [List.length_map]; exact List.length_filter_le _ _
theorem Tryz.infoInt : (Tryz.prog.info? 3).map (fun i => (i.zero, i.size, i.bytes)) = some (some (.int .i64 0), 1, 8) := by kernel_rfl

structure DaysAt (w1 wr : World) (zs : List Int) (v : Value) : Prop where
  own : wr.ownsRow w1.heap.size 3 1 v zs.length (zs.map (Value.int .i64))
  bel : Below w1.heap.size w1 wr
set_option maxRecDepth 100000 in
set_option maxHeartbeats 3200000 in
theorem days_any (sb m : Nat) (L : List (Key × Cnt)) (zs : List Int) (w : World) (h : StatsAt w sb m L zs) (hl : L.length ≤ 1000000) :
    Calls Tryz.prog 14 #[.pointer (some ⟨sb, 0, none⟩)] w fun e w' => ∃ v, e = .returned v ∧ SliceInt w' v (dayL (sortK (L.map Prod.fst))) ∧ Below w.heap.size w w' := by
  obtain ⟨i0, hi, hz0, hz1, hz2⟩ := info_parts Tryz.infoInt
  have hs := sorted_any sb m L zs w h hl
  obtain ⟨ks, hks⟩ : ∃ ks, ks = sortK (L.map Prod.fst) := ⟨_, rfl⟩
  rw [← hks] at hs ⊢
  have hs' := Lib.hid hs
  have hi' := Lib.hid hi
  have hz0' := Lib.hid hz0
  have hz1' := Lib.hid hz1
  have hz2' := Lib.hid hz2
  have hks' := Lib.hid hks
  clear hi hz0 hz1 hz2 hs h hks
  go_enter Tryz.func14, Tryz.ntmps14
  go_wp2_with (go_at_call 36; fail)
  refine hs'.out.mono ?_
  rintro e w1 ⟨sv, rfl, hsk, hb⟩
  obtain ⟨A, c, rfl, hkl, hcells, _⟩ := hsk
  have hcells' := Lib.hid hcells
  have hb' := Lib.hid hb
  clear hcells hb
  go_wp2_with fail
  go_loopw [3, 9] (fun v i wr => ∃ k : Nat, k ≤ ks.length ∧ i = .int .i64 k ∧ DaysAt w1 wr (dayL (ks.take k)) v) (fun _ i _ => ks.length - (intOf i).toNat)
  case atStart => exact ⟨0, by omega, rfl, ⟨World.ownsRow_nil _ _ _ _, Below.refl _ _⟩⟩
  case round =>
    obtain ⟨k, hk0, rfl, hA⟩ := hrel
    by_cases hk : k < ks.length
    · obtain ⟨x, hx⟩ : ∃ x, ks[k]? = some x := ⟨_, List.getElem?_eq_getElem hk⟩
      obtain ⟨b, o, rfl, hrg0⟩ := hcells'.out k x hx
      have hnext : Hid (dayL (ks.take (k + 1)) = if x.2.1 = 0 then dayL (ks.take k) ++ [x.1] else dayL (ks.take k)) := by show _ = _; rw [take_some hx, dayL_snoc]
      have hdl : (dayL (ks.take k)).length ≤ 1000000 := Nat.le_trans (dayL_len _) (by simp; omega)
      obtain ⟨k1, k2, k3⟩ := x
      have hbb : b < w1.heap.size := World.block_lt_of_cell? w1 _ (hrg0 0 _ rfl)
      have hrg : wr.rangeAt b (o + k * 3) [.int .i64 k1, .int .i64 k2, .string k3] := fun j v hj => (hA.bel.cell (p := ⟨b, _, none⟩) hbb).trans (hrg0 j v hj)
      obtain ⟨zs, hzs⟩ : ∃ zs, zs = dayL (ks.take k) := ⟨_, rfl⟩
      rw [← hzs] at hA hnext hdl
      have hA' := Lib.hid hA
      have hrg' := Lib.hid hrg
      clear hA hrg hrg0 hx hzs
      by_cases h0 : k2 = 0
      · subst h0
        rw [if_pos rfl] at hnext
        obtain ⟨W, hW⟩ : ∃ W, W = wr.alloc (.cells #[.int .i64 k1, .int .i64 0, .string k3] 64) := ⟨_, rfl⟩
        have r0 : Hid ((W.alloc (.cells #[.int .i64 k1] 3)).ownsRow w1.heap.size 3 1 u3 zs.length (zs.map (Value.int .i64))) := by show World.ownsRow _ _ _ _ _ _ _; rw [hW]; exact (hA'.out.own.alloc _).alloc _
        have hWs : W.heap.size = wr.heap.size + 1 := by rw [hW]; simp
        have r1 : Hid (∀ j u, [Value.int .i64 k1][j]? = some u → (W.alloc (.cells #[.int .i64 k1] 3)).cell? ((⟨wr.heap.size + 1, 0, none⟩ : Addr).add j) = some u) := by show ∀ j u, _ → _; rw [← hWs]; exact cell_one_new _ _ _
        have r3 : Hid (zs.length + 1 ≤ maxLen) := by show _ ≤ _; unfold maxLen; omega
        have r4 : Hid ((zs.length + 1) * 8 ≤ 140737488355328) := by show _ ≤ _; omega
        have r5 : Hid (w1.heap.size ≤ (W.alloc (.cells #[.int .i64 k1] 3)).heap.size) := by have := hA'.out.bel.size; show _ ≤ _; rw [hW]; simp; omega
        have hW' := Lib.hid hW
        rw [hW] at r0 r1 r5
        clear hdl hW hWs
        go_wp2_with (first | (refine wpList_load_mid rfl 64 _ rfl b (o + k * 3) rfl _ _ hrg'.out Tryz.underlying64 rfl rfl ?_) | (at_builtin; refine wpList_append_own _ rfl _ _ 38 rfl w1.heap.size 3 i0 (.int .i64 0) 1 8 Tryz.underlying38 hi'.out hz0'.out hz1'.out hz2'.out rfl (by decide) _ _ _ rfl r0.out ⟨wr.heap.size + 1, 0, none⟩ 1 1 _ rfl rfl r1.out (by simp [Value.oneCell']) r3.out r4.out r5.out ?_; intro v' w4 ho hg4 _; have ho' := Lib.hid ho; have hg4' := Lib.hid hg4; clear ho hg4))
        refine ⟨⟨k + 1, by omega, by go_num, ?_⟩, by simp [intOf]; omega⟩
        rw [hnext.out]
        refine ⟨by simpa using ho'.out, ?_⟩
        exact ((hA'.out.bel.alloc hA'.out.bel.size _).alloc (by have := hA'.out.bel.size; simp; omega) _).grown hg4'.out (by have := hA'.out.bel.size; simp; omega) (fun j hj => (hA'.out.own.lt j hj).1)
      · have hq : (k2 == 0) = false := beq_eq_false_iff_ne.2 h0
        rw [if_neg h0] at hnext
        go_wp2_with (first | (refine wpList_load_mid rfl 64 _ rfl b (o + k * 3) rfl _ _ hrg'.out Tryz.underlying64 rfl rfl ?_))
        exact ⟨⟨k + 1, by omega, by go_num, by rw [hnext.out]; exact ⟨hA'.out.own.alloc _, hA'.out.bel.alloc hA'.out.bel.size _⟩⟩, by simp [intOf]; omega⟩
    · obtain rfl : k = ks.length := by omega
      rw [List.take_length] at hA
      have hA' := Lib.hid hA
      clear hA
      go_wp2_with fail
      go_ret
      exact ⟨_, rfl, own_sliceInt hA'.out.own (Nat.le_trans (dayL_len _) hkl), hb'.out.trans (hA'.out.bel.mono hb'.out.size)⟩
end Go.Proofs.YtlemadbmlnjhpaaGreatDoor
namespace Go.Proofs.YtlemadbmlnjhpaaGreatDoor
open Go Go.RowKit Go.Proofs
set_option linter.unusedSimpArgs false
set_option linter.unusedVariables false

/-- a slice that may be nil, whose m elements are the cells ys -/
def SrcV (W : World) (size : Nat) (u : Value) (m : Nat) (ys : List Value) : Prop :=
  ys.length = m * size ∧ ∃ A c, u = .slice A m c ∧ (A = none → u = .slice none 0 0) ∧ ∀ j y, ys[j]? = some y → ∃ b o, A = some ⟨b, o, none⟩ ∧ W.cell? ⟨b, o + j, none⟩ = some y
theorem SrcV.grown {W W' : World} {size m : Nat} {u : Value} {ys : List Value} {row : Option Nat} (h : SrcV W size u m ys) (hg : W.grownBy W' row) (hr : ∀ b o c, u = .slice (some ⟨b, o, none⟩) m c → 0 < ys.length → row ≠ some b) : SrcV W' size u m ys := by
  obtain ⟨h0, A, c, h1, h2, h3⟩ := h
  refine ⟨h0, A, c, h1, h2, fun j y hj => ?_⟩
  obtain ⟨b, o, rfl, hc⟩ := h3 j y hj
  refine ⟨b, o, rfl, ?_⟩
  have hlt := World.block_lt_of_cell? W _ hc
  rw [World.cell?_of_block (hg.block b hlt (fun e => hr b o c h1 (by have := (List.getElem?_eq_some_iff.1 hj).1; omega) e.symm))]
  exact hc
theorem SrcV.below {W W' : World} {size m : Nat} {u : Value} {ys : List Value} (h : SrcV W size u m ys) (hb : Below W.heap.size W W') : SrcV W' size u m ys := by
  obtain ⟨h0, A, c, h1, h2, h3⟩ := h
  refine ⟨h0, A, c, h1, h2, fun j y hj => ?_⟩
  obtain ⟨b, o, rfl, hc⟩ := h3 j y hj
  exact ⟨b, o, rfl, (hb.cell (p := ⟨b, _, none⟩) (World.block_lt_of_cell? W _ hc)).trans hc⟩
theorem own_empty {W : World} {base g : Nat} {e : TypeId} {size : Nat} (h : W.heap[g]? = some (.cells #[] e (0, 0))) (hb : base ≤ g) : W.ownsRow base e size (.slice (some ⟨g, 0, none⟩) 0 0) 0 [] :=
  ⟨by simp, .inr ⟨g, 0, #[], rfl, hb, h, Nat.le_refl _, by decide, by simp, by simp⟩⟩
theorem src_block {W : World} {g : Nat} {e : TypeId} {xs : List Value} {m size : Nat} (h : W.heap[g]? = some (.cells xs.toArray e (0, 0))) (hl : xs.length = m * size) : SrcV W size (.slice (some ⟨g, 0, none⟩) m m) m xs :=
  ⟨hl, some ⟨g, 0, none⟩, m, rfl, (fun h => by cases h), fun j y hj => ⟨g, 0, rfl, by rw [cell_of_row W g _ _ _ _ h, Nat.zero_add]; simpa using hj⟩⟩

section
variable {P : Program} (w : World)
theorem run_append_src (t ty : TypeId) (base : Nat) (e : TypeId) (i : TypeInfo) (z : Value) (size bytes : Nat) (ht : P.underlying t = some (.slice e)) (hi : P.info? e = some i) (hz : i.zero = some z)
    (hsize : i.size = size) (hby : i.bytes = bytes) (hzs : z.cells.size = size) (hsz : 0 < size)
    (v : Value) (n : Nat) (xs : List Value) (hown : w.ownsRow base e size v n xs)
    (u : Value) (m : Nat) (ys : List Value) (hu : SrcV w size u m ys) (h1 : ∀ u ∈ ys, u.oneCell' = true)
    (h63 : n + m ≤ maxLen) (hbytes : (n + m) * bytes ≤ 140737488355328) (hbase : base ≤ w.heap.size) :
    ∃ v' w', (Builtin.append_ #[t, t] ty #[v, u]).run P w = .ok v' w' ∧ w'.ownsRow base e size v' (n + m) (xs ++ ys) ∧ w.grownBy w' v.ownBlock ∧ (v'.ownBlock = v.ownBlock ∨ v'.ownBlock = some w.heap.size) := by
  obtain ⟨hl, A, c, rfl, hnil, hc⟩ := hu
  cases A with
  | none =>
    obtain ⟨rfl, rfl⟩ : m = 0 ∧ c = 0 := by have := hnil rfl; injection this with _ h2 h3; exact ⟨h2, h3⟩
    have hy : ys = [] := List.eq_nil_of_length_eq_zero (by simpa using hl)
    subst hy
    refine ⟨v, w, run_append_owned_none (P := P) (w := w) base t ty e i size ht hi v n xs hown, by simpa using hown, ⟨rfl, rfl, rfl, Nat.le_refl _, fun _ _ _ => rfl⟩, .inl rfl⟩
  | some ad =>
    obtain ⟨b, o, s⟩ := ad
    rcases Nat.eq_zero_or_pos ys.length with h0 | hpos
    · obtain ⟨v', w', hr, h2, h3, _, h5⟩ := run_append_own_at (P := P) w base t ty e i z size bytes ht hi hz hsize hby hzs hsz v n xs hown ⟨b, o, s⟩ m c ys hl (fun j u hj => by have := (List.getElem?_eq_some_iff.1 hj).1; omega) h1 h63 hbytes hbase
      exact ⟨v', w', hr, h2, h3, h5⟩
    · obtain ⟨y, hy⟩ : ∃ y, ys[0]? = some y := ⟨_, List.getElem?_eq_getElem hpos⟩
      obtain ⟨b', o', hA, _⟩ := hc 0 y hy
      obtain ⟨rfl, rfl, rfl⟩ : b = b' ∧ o = o' ∧ s = none := by injection hA with hA; injection hA with h1 h2 h3; exact ⟨h1, h2, h3⟩
      obtain ⟨v', w', hr, h2, h3, _, h5⟩ := run_append_own_at (P := P) w base t ty e i z size bytes ht hi hz hsize hby hzs hsz v n xs hown ⟨b, o, none⟩ m c ys hl (fun j u hj => by
        obtain ⟨b', o', hA, hh⟩ := hc j u hj
        obtain ⟨rfl, rfl⟩ : b = b' ∧ o = o' := by injection hA with hA; injection hA with h1 h2 h3; exact ⟨h1, h2⟩
        rw [Addr.add_mid]; exact hh) h1 h63 hbytes hbase
      exact ⟨v', w', hr, h2, h3, h5⟩

theorem wp_append_src {o : Oper} {a : Act} {K : Act → World → Prop} {Q : Exit → Act → World → Prop} (s x : Operand) (t : TypeId)
    (ho : o.op = .call { callee := .builtin .append, args := #[s, x], argTypes := #[t, t] })
    (base : Nat) (e : TypeId) (i : TypeInfo) (z : Value) (size bytes : Nat) (ht : P.underlying t = some (.slice e)) (hi : P.info? e = some i) (hz : i.zero = some z)
    (hsize : i.size = size) (hby : i.bytes = bytes) (hzs : z.cells.size = size) (hsz : 0 < size)
    (v : Value) (n : Nat) (xs : List Value) (hs : a.eval s = v) (hown : w.ownsRow base e size v n xs)
    (u : Value) (m : Nat) (ys : List Value) (hx : a.eval x = u) (hu : SrcV w size u m ys) (h1 : ∀ u ∈ ys, u.oneCell' = true)
    (h63 : n + m ≤ maxLen) (hbytes : (n + m) * bytes ≤ 140737488355328) (hbase : base ≤ w.heap.size)
    (h : ∀ v' w', w'.ownsRow base e size v' (n + m) (xs ++ ys) → w.grownBy w' v.ownBlock → (v'.ownBlock = v.ownBlock ∨ v'.ownBlock = some w.heap.size) → K (a.put o.dst v') w') : o.wp P a w K Q := by
  obtain ⟨v', w', hr, h2, h3, h4⟩ := run_append_src (P := P) w t o.type base e i z size bytes ht hi hz hsize hby hzs hsz v n xs hown u m ys hu h1 h63 hbytes hbase
  unfold Oper.wp execOp
  simp only [ho, resolve, invoke, builtin, Sem.run_bind, Sem.run_pure, Result.andThen_ok, List.map_toArray, List.map_cons, List.map_nil, hs, hx, hr]
  exact h v' w' h2 h3 h4
theorem wpList_append_src {ops : Array Oper} {rest : List Oper} {o : Oper} {a : Act} {Q : Exit → Act → World → Prop} (hgd : o.guard = none) (s x : Operand) (t : TypeId)
    (ho : o.op = .call { callee := .builtin .append, args := #[s, x], argTypes := #[t, t] })
    (base : Nat) (e : TypeId) (i : TypeInfo) (z : Value) (size bytes : Nat) (ht : P.underlying t = some (.slice e)) (hi : P.info? e = some i) (hz : i.zero = some z)
    (hsize : i.size = size) (hby : i.bytes = bytes) (hzs : z.cells.size = size) (hsz : 0 < size)
    (v : Value) (n : Nat) (xs : List Value) (hs : a.eval s = v) (hown : w.ownsRow base e size v n xs)
    (u : Value) (m : Nat) (ys : List Value) (hx : a.eval x = u) (hu : SrcV w size u m ys) (h1 : ∀ u ∈ ys, u.oneCell' = true)
    (h63 : n + m ≤ maxLen) (hbytes : (n + m) * bytes ≤ 140737488355328) (hbase : base ≤ w.heap.size)
    (h : ∀ v' w', w'.ownsRow base e size v' (n + m) (xs ++ ys) → w.grownBy w' v.ownBlock → (v'.ownBlock = v.ownBlock ∨ v'.ownBlock = some w.heap.size) → wpList P ops Q rest (a.put o.dst v') w') : wpList P ops Q (o :: rest) a w :=
  wpList_plain hgd fun _ hK => wp_append_src w s x t ho base e i z size bytes ht hi hz hsize hby hzs hsz v n xs hs hown u m ys hx hu h1 h63 hbytes hbase fun v' w' h2 h3 h4 => hK _ _ (h v' w' h2 h3 h4)
theorem step_append_src {ops : Array Oper} {o : Oper} {a : Act} {K : Act → World → Prop} {Q : Exit → Act → World → Prop} {E : Prop} (hgd : o.guard = none) (s x : Operand) (t : TypeId)
    (ho : o.op = .call { callee := .builtin .append, args := #[s, x], argTypes := #[t, t] })
    (base : Nat) (e : TypeId) (i : TypeInfo) (z : Value) (size bytes : Nat) (ht : P.underlying t = some (.slice e)) (hi : P.info? e = some i) (hz : i.zero = some z)
    (hsize : i.size = size) (hby : i.bytes = bytes) (hzs : z.cells.size = size) (hsz : 0 < size)
    (v : Value) (n : Nat) (xs : List Value) (hs : a.eval s = v) (hown : w.ownsRow base e size v n xs)
    (u : Value) (m : Nat) (ys : List Value) (hx : a.eval x = u) (hu : SrcV w size u m ys) (h1 : ∀ u ∈ ys, u.oneCell' = true)
    (h63 : n + m ≤ maxLen) (hbytes : (n + m) * bytes ≤ 140737488355328) (hbase : base ≤ w.heap.size)
    (h : ∀ v' w', w'.ownsRow base e size v' (n + m) (xs ++ ys) → w.grownBy w' v.ownBlock → (v'.ownBlock = v.ownBlock ∨ v'.ownBlock = some w.heap.size) → K (a.put o.dst v') w') :
    if Region.wanted o (yielded ops a.tmps) = true then Oper.wp P o a w K Q else E := by
  have hw : Region.wanted o (yielded ops a.tmps) = true := by simp [Region.wanted, hgd]
  rw [if_pos hw]
  exact wp_append_src w s x t ho base e i z size bytes ht hi hz hsize hby hzs hsz v n xs hs hown u m ys hx hu h1 h63 hbytes hbase h
theorem step_append_bel {ops : Array Oper} {o : Oper} {a : Act} {K : Act → World → Prop} {Q : Exit → Act → World → Prop} {E : Prop} (hgd : o.guard = none) (s x : Operand) (t : TypeId)
    (ho : o.op = .call { callee := .builtin .append, args := #[s, x], argTypes := #[t, t] })
    (w0 : World) (hb : Below w0.heap.size w0 w) (e : TypeId) (i : TypeInfo) (z : Value) (size bytes : Nat) (ht : P.underlying t = some (.slice e)) (hi : P.info? e = some i) (hz : i.zero = some z)
    (hsize : i.size = size) (hby : i.bytes = bytes) (hzs : z.cells.size = size) (hsz : 0 < size)
    (v : Value) (n : Nat) (xs : List Value) (hs : a.eval s = v) (hown : w.ownsRow w0.heap.size e size v n xs)
    (u : Value) (m : Nat) (ys : List Value) (hx : a.eval x = u) (hu : SrcV w size u m ys) (h1 : ∀ u ∈ ys, u.oneCell' = true)
    (h63 : n + m ≤ 1000000) (hbytes : bytes ≤ 1000)
    (h : ∀ v' w', w'.ownsRow w0.heap.size e size v' (n + m) (xs ++ ys) → Below w0.heap.size w0 w' → w.grownBy w' v.ownBlock → (v'.ownBlock = v.ownBlock ∨ v'.ownBlock = some w.heap.size) → K (a.put o.dst v') w') :
    if Region.wanted o (yielded ops a.tmps) = true then Oper.wp P o a w K Q else E :=
  step_append_src w hgd s x t ho w0.heap.size e i z size bytes ht hi hz hsize hby hzs hsz v n xs hs hown u m ys hx hu h1 (by unfold maxLen; omega)
    (by have := Nat.mul_le_mul h63 hbytes; omega) hb.size fun v' w' h2 h3 h4 => h v' w' h2 (hb.grown h3 hb.size (fun j hj => (hown.lt j hj).1)) h3 h4
end

/-- slices of a slice of cells -/
theorem sliced_src {W : World} {v : Value} {xs : List Value} {base : Nat} {e : TypeId} (h : W.ownsRow base e 1 v xs.length xs) {k : Nat} (hk : k ≤ xs.length) :
    ∃ A n c, v = .slice A n c ∧ n = xs.length ∧ n ≤ c ∧ c ≤ maxLen ∧ SrcV W 1 (sliced A 0 k c 1) k (xs.take k) ∧ SrcV W 1 (sliced A k n c 1) (n - k) (xs.drop k) := by
  rcases h.2 with ⟨rfl, h0⟩ | ⟨g, cap, cur, rfl, hb', hg, h4, h5, h6, h7⟩
  · have hx : xs = [] := List.eq_nil_of_length_eq_zero h0
    subst hx
    obtain rfl : k = 0 := by simpa using hk
    exact ⟨none, 0, 0, rfl, rfl, Nat.le_refl _, by decide, ⟨by simp, none, 0, rfl, fun _ => rfl, fun j y hj => by simp at hj⟩, ⟨by simp, none, 0, rfl, fun _ => rfl, fun j y hj => by simp at hj⟩⟩
  · have hcell : ∀ j y, xs[j]? = some y → W.cell? ⟨g, j, none⟩ = some y := fun j y hj => by
      rw [h.cellAt j (by have := (List.getElem?_eq_some_iff.1 hj).1; omega)]; exact hj
    refine ⟨_, _, _, rfl, rfl, h4, h5, ⟨by simp; omega, some ⟨g, 0, none⟩, cap, ?_, (fun h => by cases h), fun j y hj => ⟨g, 0, rfl, ?_⟩⟩, ?_⟩
    · unfold sliced
      by_cases hc : cap = 0
      · simp [hc]
      · simp [hc, Addr.add_mid]
    · rw [Nat.zero_add]
      refine hcell j y ?_
      rw [List.getElem?_take] at hj
      split at hj
      · exact hj
      · cases hj
    · by_cases hc : cap = k
      · have hk2 : xs.length = k := by omega
        refine ⟨by simp, some ⟨g, 0, none⟩, cap - k, by simp [sliced, hc], (fun h => by cases h), fun j y hj => ?_⟩
        rw [List.drop_of_length_le (by omega)] at hj
        simp at hj
      · refine ⟨by simp, some ⟨g, k, none⟩, cap - k, by simp [sliced, hc, Addr.add_mid], (fun h => by cases h), fun j y hj => ⟨g, k, rfl, hcell _ _ ?_⟩⟩
        rw [List.getElem?_drop] at hj
        exact hj
end Go.Proofs.YtlemadbmlnjhpaaGreatDoor
namespace Go.Proofs.YtlemadbmlnjhpaaGreatDoor
open Go Go.RowKit Go.Proofs
set_option linter.unusedSimpArgs false
set_option linter.unusedVariables false

/-- one behind the last number that is less than d -/
def atD (d : Int) (l : List Int) : Nat := (l.foldl (fun (p : Nat × Nat) x => (p.1 + 1, if x < d then p.1 + 1 else p.2)) (0, 0)).2
theorem atD_fst (d : Int) (l : List Int) : ∀ p : Nat × Nat, (l.foldl (fun (p : Nat × Nat) x => (p.1 + 1, if x < d then p.1 + 1 else p.2)) p).1 = p.1 + l.length := by
  induction l with
  | nil => intro p; rfl
  | cons x r ih => intro p; rw [List.foldl_cons, ih]; simp; omega
theorem atD_snoc (d x : Int) (l : List Int) : atD d (l ++ [x]) = if x < d then l.length + 1 else atD d l := by
  unfold atD
  rw [List.foldl_append]
  have h := atD_fst d l (0, 0)
  simp only [List.foldl_cons, List.foldl_nil, h, Nat.zero_add]
theorem atD_le (d : Int) : ∀ (n : Nat) (l : List Int), l.length = n → atD d l ≤ l.length
  | 0, l, h => by rw [List.eq_nil_of_length_eq_zero h]; exact Nat.le_refl _
  | n + 1, l, h => by
    obtain ⟨xs, e, rfl⟩ : ∃ xs e, l = xs ++ [e] := ⟨l.dropLast, l.getLast (by intro h0; subst h0; simp at h), (List.dropLast_concat_getLast _).symm⟩
    have ih := atD_le d n xs (by simpa using h)
    rw [atD_snoc]
    split <;> simp <;> omega
def insD (l : List Int) (d : Int) : List Int := if l.any (· == d) then l else l.take (atD d l) ++ [d] ++ l.drop (atD d l)
theorem insD_len (l : List Int) (d : Int) : (insD l d).length ≤ l.length + 1 := by
  unfold insD
  split
  · omega
  · simp; omega
def daysM (es : List Ev) : List Int := es.foldl (fun l e => insD l (e.mi / 1440)) []
theorem daysM_snoc (es : List Ev) (e : Ev) : daysM (es ++ [e]) = insD (daysM es) (e.mi / 1440) := by simp [daysM]
theorem daysM_len : ∀ (n : Nat) (es : List Ev), es.length = n → (daysM es).length ≤ n
  | 0, l, h => by rw [List.eq_nil_of_length_eq_zero h]; exact Nat.le_refl _
  | n + 1, l, h => by
    obtain ⟨xs, e, rfl⟩ : ∃ xs e, l = xs ++ [e] := ⟨l.dropLast, l.getLast (by intro h0; subst h0; simp at h), (List.dropLast_concat_getLast _).symm⟩
    have ih := daysM_len n xs (by simpa using h)
    have := insD_len (daysM xs) (e.mi / 1440)
    rw [daysM_snoc]; omega

structure MDaysAt (w wr : World) (zs : List Int) (v : Value) : Prop where
  own : wr.ownsRow w.heap.size 3 1 v (zs.map (Value.int .i64)).length (zs.map (Value.int .i64))
  bel : Below w.heap.size w wr
theorem own_zs {W : World} {base : Nat} {v : Value} {zs : List Int} (h : W.ownsRow base 3 1 v (zs.map (Value.int .i64)).length (zs.map (Value.int .i64))) : W.ownsRow base 3 1 v zs.length (zs.map (Value.int .i64)) := by simpa using h
theorem MDaysAt.ins {w w1 wE : World} {zs : List Int} {v vE : Value} {d : Int} {k : Nat} (h : MDaysAt w w1 zs v) (h0 : false = zs.any (· == d)) (hk : k = atD d zs) (hkl : k ≤ zs.length)
    (ho : wE.ownsRow w1.heap.size 3 1 vE (0 + k + 1 + (zs.length - k)) ([] ++ (zs.map (Value.int .i64)).take k ++ [.int .i64 d] ++ (zs.map (Value.int .i64)).drop k)) (hb : Below w1.heap.size w1 wE) : MDaysAt w wE (insD zs d) vE := by
  refine ⟨?_, h.bel.trans (hb.mono h.bel.size)⟩
  have e : (insD zs d).map (Value.int .i64) = [] ++ (zs.map (Value.int .i64)).take k ++ [.int .i64 d] ++ (zs.map (Value.int .i64)).drop k := by
    rw [insD, ← h0, if_neg (by simp), ← hk]
    simp [List.map_take, List.map_drop]
  have e2 : ((insD zs d).map (Value.int .i64)).length = 0 + k + 1 + (zs.length - k) := by rw [e]; simp; omega
  rw [e2, e]
  exact ownsRow_base_a ho h.bel.size
theorem run_slice_hi {P : Program} (W : World) (t : TypeId) (ht : P.underlying t = some (.slice (P.elem t))) (hz : ∀ w, (Go.sizeOf (P.elem t)).run P w = .ok 1 w) (A : Option Addr) (n c k : Nat) (hk : k ≤ c) :
    (Instr.slice t (.slice A n c) none (some (.int .i64 k)) none).run P W = .ok (sliced A 0 k c 1) W := by
  rw [run_slice_h W t A n c ht .i64 k (by omega) (by omega), hz]
  simp [Result.andThen]
theorem run_slice_lo {P : Program} (W : World) (t : TypeId) (ht : P.underlying t = some (.slice (P.elem t))) (hz : ∀ w, (Go.sizeOf (P.elem t)).run P w = .ok 1 w) (A : Option Addr) (n c k : Nat) (hk : k ≤ n) :
    (Instr.slice t (.slice A n c) (some (.int .i64 k)) none none).run P W = .ok (sliced A k n c 1) W := by
  rw [run_slice_l W t A n c ht .i64 k (by omega) (by omega), hz]
  simp [Result.andThen]
set_option maxRecDepth 100000 in
set_option maxHeartbeats 3200000 in
theorem mdays_any (v : Value) (es : List Ev) (w : World) (hv : SliceEv w v es) (hok : ∀ e ∈ es, e.err = 0) (hl : es.length ≤ 1000) :
    Calls Tryz.prog 15 #[v] w fun e w' => ∃ u, e = .returned u ∧ SliceInt w' u (daysM es) ∧ Below w.heap.size w w' := by
  obtain ⟨i0, hi, hz0, hz1, hz2⟩ := info_parts Tryz.infoInt
  obtain ⟨va, vc, rfl, _, hvf⟩ := hv.form
  clear hvf
  have hv' := Lib.hid hv
  have hok' := Lib.hid hok
  have hi' := Lib.hid hi
  have hz0' := Lib.hid hz0
  have hz1' := Lib.hid hz1
  have hz2' := Lib.hid hz2
  clear hv hok hi hz0 hz1 hz2
  go_enter Tryz.func15, Tryz.ntmps15
  go_wp2_with fail
  go_loopw [3, 4] (fun u i wr => ∃ k : Nat, k ≤ es.length ∧ i = .int .i64 k ∧ MDaysAt w wr (daysM (es.take k)) u) (fun _ i _ => es.length - (intOf i).toNat)
  case atStart => exact ⟨0, by omega, rfl, ⟨World.ownsRow_nil _ _ _ _, Below.refl _ _⟩⟩
  case round =>
    obtain ⟨k, hk0, rfl, hA⟩ := hrel
    by_cases hk : k < es.length
    · obtain ⟨ev, hev⟩ : ∃ e, es[k]? = some e := ⟨_, List.getElem?_eq_getElem hk⟩
      obtain ⟨⟨em1, em2⟩, _, _⟩ := Ev.ok (hok'.out ev (List.mem_of_getElem? hev))
      obtain ⟨va', vc', hform, _, hvf⟩ := hv'.out.form
      cases hform
      obtain ⟨bb, o, cs, rfl, hrg0, hea⟩ := hvf k ev hev
      obtain ⟨v1, v2, v3, v4, v5, v6, v7, v8, v9, v10, v11, v12, v13, v14, v15, v16, g, sv, rfl, hau, hg, hs, _, _⟩ := hea
      have hbb : bb < w.heap.size := World.block_lt_of_cell? w _ (hrg0 0 _ rfl)
      have hrg : wr.rangeAt bb (o + k * 20) [.int .i64 ev.mi, v1, v2, v3, v4, v5, v6, v7, v8, v9, v10, v11, v12, v13, v14, v15, v16, g, sv, .int .i64 ev.b] := fun j v hj => (hA.bel.cell (p := ⟨bb, _, none⟩) hbb).trans (hrg0 j v hj)
      have hnext : Hid (daysM (es.take (k + 1)) = insD (daysM (es.take k)) (ev.mi / 1440)) := by show _ = _; rw [take_some hev, daysM_snoc]
      have hzl : (daysM (es.take k)).length ≤ 1000 := by
        have h1 := daysM_len _ (es.take k) rfl
        simp at h1
        omega
      obtain ⟨mi, hmi⟩ : ∃ x, x = ev.mi := ⟨_, rfl⟩
      obtain ⟨b, hb⟩ : ∃ x, x = ev.b := ⟨_, rfl⟩
      rw [← hmi] at em1 em2 hrg hnext
      rw [← hb] at hrg
      have hd := fun W => mday_lit mi b v1 v2 v3 v4 v5 v6 v7 v8 v9 v10 v11 v12 v13 v14 v15 v16 g sv W em1 em2
      obtain ⟨d, hd0⟩ : ∃ x, x = mi / 1440 := ⟨_, rfl⟩
      rw [← hd0] at hd hnext
      obtain ⟨zs, hzs⟩ : ∃ zs, zs = daysM (es.take k) := ⟨_, rfl⟩
      rw [← hzs] at hA hnext hzl
      have hA' := Lib.hid hA
      have hrg' := Lib.hid hrg
      have hd' := Lib.hid hd
      clear hA hrg hrg0 hvf hev hzs hd0 hmi hb hau hg hs hd
      go_wp2_with (first | (refine wpList_load_mid rfl 27 _ rfl bb (o + k * 20) rfl _ _ hrg'.out Tryz.underlying27 rfl rfl ?_))
      go_at_call 34
      refine (hd'.out _).mono ?_
      rintro e w1 ⟨rfl, hb1⟩
      have hA1 : MDaysAt w w1 zs u3 := ⟨by
        have h1 := hA'.out.own
        exact ownsRow_block h1 fun g _ hg => hb1.block g hg, hA'.out.bel.trans (hb1.mono hA'.out.bel.size)⟩
      have hA1' := Lib.hid hA1
      obtain ⟨A, c, rfl, _, hcell⟩ := (own_sliceInt (own_zs hA1.own) (by omega)).form
      have hcell' := Lib.hid hcell
      clear hb1 hA1 hcell
      go_wp2_with fail
      go_loop [6, 7, 8] (fun at_ kn i => ∃ j : Nat, j ≤ zs.length ∧ i = .int .i64 j ∧ at_ = .int .i64 (atD d (zs.take j)) ∧ kn = .bool ((zs.take j).any (· == d))) (fun _ _ i => zs.length - (intOf i).toNat)
      case atStart => exact ⟨0, by omega, rfl, rfl, rfl⟩
      case round =>
        obtain ⟨j, hj0, rfl, rfl, rfl⟩ := hrel
        by_cases hj : j < zs.length
        · obtain ⟨bd, od, rfl, hc⟩ := hcell'.out j hj
          obtain ⟨x, hx⟩ : ∃ x, x = zs.getD j 0 := ⟨_, rfl⟩
          have htk : zs.take (j + 1) = zs.take j ++ [x] := by rw [hx]; exact take_getD hj
          have hn1 : Hid (atD d (zs.take (j + 1)) = if x < d then j + 1 else atD d (zs.take j)) := by show _ = _; rw [htk, atD_snoc, List.length_take, Nat.min_eq_left hj0]
          have hn2 : Hid ((zs.take (j + 1)).any (· == d) = ((zs.take j).any (· == d) || (x == d))) := by show _ = _; rw [htk, List.any_append]; simp
          rw [← hx] at hc
          have hat := atD_le d _ (zs.take j) rfl
          have hat2 : atD d (zs.take j) ≤ 1000 := by simp at hat; omega
          obtain ⟨at0, hat0⟩ : ∃ a, a = atD d (zs.take j) := ⟨_, rfl⟩
          obtain ⟨kn0, hkn0⟩ : ∃ a, a = (zs.take j).any (· == d) := ⟨_, rfl⟩
          rw [← hat0] at hn1 hat2
          rw [← hkn0] at hn2
          rw [← hat0, ← hkn0]
          clear hat hx htk hat0 hkn0
          by_cases hlt : x < d
          · have hne : (x == d) = false := beq_eq_false_iff_ne.2 (by omega)
            rw [if_pos hlt] at hn1
            rw [hne] at hn2
            cases kn0
            all_goals
              go_wp2_with fail
              exact ⟨⟨j + 1, by omega, by go_num, by rw [hn1.out]; go_num, by rw [hn2.out]; rfl⟩, by simp [intOf]; omega⟩
          · rw [if_neg hlt] at hn1
            by_cases hxd : x = d
            · subst hxd
              have hq : (x == x) = true := by simp
              rw [hq] at hn2
              cases kn0
              all_goals
                go_wp2_with fail
                exact ⟨⟨j + 1, by omega, by go_num, by rw [hn1.out], by rw [hn2.out]; rfl⟩, by simp [intOf]; omega⟩
            · have hne : (x == d) = false := beq_eq_false_iff_ne.2 hxd
              rw [hne] at hn2
              cases kn0
              all_goals
                go_wp2_with fail
                exact ⟨⟨j + 1, by omega, by go_num, by rw [hn1.out], by rw [hn2.out]; rfl⟩, by simp [intOf]; omega⟩
        · obtain rfl : j = zs.length := by omega
          rw [List.take_length]
          have hat := atD_le d _ zs rfl
          obtain ⟨at0, hat0⟩ : ∃ a, a = atD d zs := ⟨_, rfl⟩
          obtain ⟨kn0, hkn0⟩ : ∃ a, a = zs.any (· == d) := ⟨_, rfl⟩
          rw [← hat0] at hat
          rw [← hat0, ← hkn0]
          have hat0' := Lib.hid hat0
          have hkn0' := Lib.hid hkn0
          clear hat0 hkn0
          cases kn0
          · obtain ⟨A', n', c', hform2, hn', hcn, hcm, hs1, hs2⟩ := sliced_src hA1'.out.own (k := at0) (by simpa using hat)
            cases hform2
            have hr1 := fun W => run_slice_hi (P := Tryz.prog) W 38 (by kernel_rfl) (fun w => by kernel_rfl) A zs.length c at0 (by omega)
            have hr2 := fun W => run_slice_lo (P := Tryz.prog) W 38 (by kernel_rfl) (fun w => by kernel_rfl) A zs.length c at0 (by omega)
            obtain ⟨U1, hU1⟩ : ∃ U, U = sliced A 0 at0 c 1 := ⟨_, rfl⟩
            obtain ⟨U2, hU2⟩ : ∃ U, U = sliced A at0 zs.length c 1 := ⟨_, rfl⟩
            rw [← hU1] at hr1 hs1
            rw [← hU2] at hr2 hs2
            have hs1' := Lib.hid hs1
            have hs2' := Lib.hid hs2
            have hhat := Lib.hid hat
            clear hs1 hs2 hU1 hU2 hcn hcm hn' hat
            go_wp2_with fail
            have hone1 : ∀ u ∈ (zs.map (Value.int .i64)).take at0, u.oneCell' = true := fun u hu => by
              obtain ⟨x, _, rfl⟩ := List.mem_map.1 (List.mem_of_mem_take hu); rfl
            have hone2 : ∀ u ∈ (zs.map (Value.int .i64)).drop at0, u.oneCell' = true := fun u hu => by
              obtain ⟨x, _, rfl⟩ := List.mem_map.1 (List.mem_of_mem_drop hu); rfl
            have hone1' := Lib.hid hone1
            have hone2' := Lib.hid hone2
            clear hone1 hone2
            go_region_held3 (fun W' => Below w1.heap.size w1 W') (first | assumption | exact (Below.refl _ _).drew | exact Below.alloc (by assumption) (Below.size (by assumption)) _)
              (first
                | ((refine step_append_bel (o := ⟨some 49, _, _, _, _, _⟩) _ (by rfl) _ _ 38 (by rfl) w1 (by assumption) 3 i0 _ 1 8 Tryz.underlying38 hi'.out hz0'.out hz1'.out hz2'.out rfl (by omega) _ 0 [] (by rfl) (own_empty (by first | exact heap_alloc2_new _ _ _ | exact heap_alloc2_old _ _ _ | exact heap_alloc_new _ _) (by first | exact Nat.le_refl _ | omega)) U1 at0 _ (by rfl) (hs1'.out.below (by assumption)) hone1'.out (by have := hhat.out; omega) (by omega) ?_; intro vB wB hownB hbB hgB hatB))
                | ((refine step_append_bel (o := ⟨some 52, _, _, _, _, _⟩) _ (by rfl) _ _ 38 (by rfl) w1 (by assumption) 3 i0 _ 1 8 Tryz.underlying38 hi'.out hz0'.out hz1'.out hz2'.out rfl (by omega) vB (0 + at0) _ (by rfl) (by first | exact hownB | exact hownB.alloc _) _ 1 [.int .i64 d] (by rfl) (by first | exact src_block (heap_alloc_new _ _) rfl | exact src_block ((hgB.block _ (by simp) (by simp [Value.ownBlock])).trans (heap_alloc2_new _ _ _)) rfl | exact src_block ((hgB.block _ (by simp <;> omega) (by simp [Value.ownBlock])).trans (heap_alloc2_old _ _ _)) rfl) (by simp [Value.oneCell']) (by have := hhat.out; omega) (by omega) ?_; intro vD wD hownD hbD hgD hatD))
                | ((refine step_append_bel (o := ⟨some 56, _, _, _, _, _⟩) _ (by rfl) _ _ 38 (by rfl) w1 (by assumption) 3 i0 _ 1 8 Tryz.underlying38 hi'.out hz0'.out hz1'.out hz2'.out rfl (by omega) vD (0 + at0 + 1) _ (by rfl) hownD U2 (zs.length - at0) _ (by rfl) (hs2'.out.below (by assumption)) hone2'.out (by have := hhat.out; omega) (by omega) ?_; intro vE wE hownE hbE hgE hatE)))
            all_goals
              go_wp2_with fail
              refine ⟨⟨k + 1, by omega, by go_num, ?_⟩, by simp [intOf]; omega⟩
              rw [hnext.out]
              exact MDaysAt.ins hA1'.out hkn0'.out hat0'.out hhat.out hownE hbE
          · go_wp2_with fail
            refine ⟨⟨k + 1, by omega, by go_num, ?_⟩, by simp [intOf]; omega⟩
            rw [hnext.out, insD, ← hkn0'.out, if_pos rfl]
            exact hA1'.out
    · obtain rfl : k = es.length := by omega
      rw [List.take_length] at hA
      have hzl := daysM_len _ es rfl
      have hA' := Lib.hid hA
      clear hA
      go_wp2_with fail
      go_ret
      exact ⟨_, rfl, own_sliceInt (own_zs hA'.out.own) (by omega), hA'.out.bel⟩
end Go.Proofs.YtlemadbmlnjhpaaGreatDoor
