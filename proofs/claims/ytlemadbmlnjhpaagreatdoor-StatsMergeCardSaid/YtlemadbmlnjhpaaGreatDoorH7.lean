/- delete on the map of counts; what Forget removes. -/
/- Stats.Forget. -/
import Derived.Test.YtlemadbmlnjhpaaGreatDoorH4
import Derived.Test.YtlemadbmlnjhpaaGreatDoorH5
import Derived.Deep.RegionHeld3
namespace Go.Proofs.YtlemadbmlnjhpaaGreatDoor
open Go Go.RowKit Go.Proofs
open Go.ChangeMaps (setBlock)
set_option linter.unusedSimpArgs false
set_option linter.unusedVariables false

theorem map_erase {α β : Type} (f : α → β) : ∀ (l : List α) (j : Nat), (l.eraseIdx j).map f = (l.map f).eraseIdx j
  | [], _ => rfl
  | _ :: _, 0 => rfl
  | x :: r, j + 1 => by simp only [List.eraseIdx_cons_succ, List.map_cons, map_erase f r j]
theorem MapIs.delete {w : World} {m : Nat} {L : List (Key × Cnt)} (h : MapIs w m L) (k : Key) {j : Nat} {d : Cnt} (hk : findL k L 0 = some (j, d)) :
    ∃ w', (∀ ty : TypeId, (Builtin.delete_ #[70, 64] ty #[.map (some m), keyV k]).run Tryz.prog w = .ok (.tuple #[]) w') ∧ MapIs w' m (L.eraseIdx j) ∧ w.grownBy w' (some m) := by
  obtain ⟨es, clock, h1, h2, h3, h4⟩ := h
  have hf := Tryz.run_findKey k w es.toList L h2
  have hc := Tryz.check_key es.isEmpty k w
  rw [hk] at hf
  refine ⟨setBlock w m (.map (es.eraseIdxIfInBounds j) clock), fun ty => ?_, ⟨es.eraseIdxIfInBounds j, clock, ?_, ?_, ?_, ?_⟩, ⟨rfl, rfl, rfl, by simp [setBlock], fun i _ hi => ?_⟩⟩
  · simp [Builtin.delete_, run_underlying Tryz.underlying70, MapKept.run_getObj_map h1, hc, hf, MapKept.run_setObj_map _ h1, Result.andThen, setBlock]
  · show (w.heap.setIfInBounds m _)[m]? = _
    rw [Array.getElem?_setIfInBounds, if_pos rfl, if_pos (Array.getElem?_eq_some_iff.1 h1).1]
  · rw [Array.toList_eraseIdxIfInBounds, map_erase, h2, ← map_erase]
  · rw [Array.toList_eraseIdxIfInBounds]
    exact h3.sublist (List.eraseIdx_sublist _ _)
  · intro e he
    rw [Array.toList_eraseIdxIfInBounds] at he
    exact h4 e ((List.eraseIdx_sublist _ _).subset he)
  · show (w.heap.setIfInBounds m _)[i]? = _
    rw [Array.getElem?_setIfInBounds]
    rw [if_neg (fun e => hi (by rw [e]))]
theorem erase_drop {k : Key} : ∀ {L : List (Key × Cnt)} {i j : Nat} {d : Cnt}, (L.map Prod.fst).Nodup → findL k L i = some (j, d) → i ≤ j ∧ L.eraseIdx (j - i) = L.filter fun q => !keyEq k q.1
  | [], i, j, d, _, h => by cases h
  | p :: r, i, j, d, hn, h => by
    rw [List.map_cons, List.nodup_cons] at hn
    unfold findL at h
    by_cases hp : keyEq k p.1 = true
    · rw [if_pos hp] at h
      obtain ⟨rfl, _⟩ : i = j ∧ p.2 = d := by injection h with h; injection h with h1 h2; exact ⟨h1, h2⟩
      refine ⟨Nat.le_refl _, ?_⟩
      rw [Nat.sub_self, List.eraseIdx_cons_zero, List.filter_cons, if_neg (by simp [hp])]
      symm
      rw [List.filter_eq_self]
      intro q hq
      have hne : ¬ keyEq k q.1 = true := fun he => hn.1 (by rw [← (keyEq_iff _ _).1 hp, (keyEq_iff _ _).1 he]; exact List.mem_map.2 ⟨q, hq, rfl⟩)
      simpa using hne
    · rw [if_neg hp] at h
      obtain ⟨h1, h2⟩ := erase_drop hn.2 h
      refine ⟨by omega, ?_⟩
      rw [show j - i = (j - (i + 1)) + 1 by omega, List.eraseIdx_cons_succ, h2, List.filter_cons, if_pos (by simpa using hp)]

/-- what is left behind the first keys of the sorted ones -/
def leftL (before : Int) (ks : List Key) (L : List (Key × Cnt)) : List (Key × Cnt) := L.filter fun q => keepB before q.1 || !ks.any fun k => keyEq k q.1
def goneN (before : Int) (ks : List Key) : Nat := (ks.filter fun k => !keepB before k).length
theorem leftL_nil (before : Int) (L : List (Key × Cnt)) : leftL before [] L = L := by simp [leftL]
theorem leftL_keep {before : Int} {ks : List Key} {x : Key} (L : List (Key × Cnt)) (h : keepB before x = true) : leftL before (ks ++ [x]) L = leftL before ks L := by
  unfold leftL
  refine List.filter_congr fun q _ => ?_
  by_cases hq : q.1 = x
  · rw [hq, h]; rfl
  · have he : keyEq x q.1 = false := by
      cases hb : keyEq x q.1 with
      | false => rfl
      | true => exact absurd ((keyEq_iff _ _).1 hb).symm hq
    simp [he]
theorem leftL_gone {before : Int} {ks : List Key} {x : Key} (L : List (Key × Cnt)) (h : keepB before x = false) : leftL before (ks ++ [x]) L = (leftL before ks L).filter fun q => !keyEq x q.1 := by
  unfold leftL
  rw [List.filter_filter]
  refine List.filter_congr fun q _ => ?_
  by_cases hq : q.1 = x
  · have he : keyEq x q.1 = true := (keyEq_iff _ _).2 hq.symm
    rw [he, hq, h]; rw [hq] at he; simp [he]
  · have he : keyEq x q.1 = false := by
      cases hb : keyEq x q.1 with
      | false => rfl
      | true => exact absurd ((keyEq_iff _ _).1 hb).symm hq
    rw [he]; simp [he]
theorem leftL_all {before : Int} {ks : List Key} {L : List (Key × Cnt)} (h : ∀ q ∈ L, q.1 ∈ ks) : leftL before ks L = forgetL before L := by
  unfold leftL forgetL
  refine List.filter_congr fun q hq => ?_
  have : ks.any (fun k => keyEq k q.1) = true := List.any_eq_true.2 ⟨q.1, h q hq, (keyEq_iff _ _).2 rfl⟩
  rw [this]; simp
theorem goneN_snoc (before : Int) (ks : List Key) (x : Key) : goneN before (ks ++ [x]) = goneN before ks + (if keepB before x then 0 else 1) := by
  unfold goneN
  rw [List.filter_append, List.length_append]
  by_cases h : keepB before x = true
  · simp [h]
  · simp [h]
theorem goneN_le (before : Int) (ks : List Key) : goneN before ks ≤ ks.length := List.length_filter_le _ _
theorem nodup_left {before : Int} {ks : List Key} {L : List (Key × Cnt)} (h : (L.map Prod.fst).Nodup) : ((leftL before ks L).map Prod.fst).Nodup :=
  h.sublist ((List.filter_sublist).map Prod.fst)
theorem find_left {before : Int} {ks : List Key} {x : Key} {L : List (Key × Cnt)} (hx : x ∈ L.map Prod.fst) (hn : x ∉ ks) : ∃ j c, findL x (leftL before ks L) 0 = some (j, c) := by
  obtain ⟨q, hq, rfl⟩ := List.mem_map.1 hx
  exact findL_of_mem _ _ 0 (List.mem_map.2 ⟨q, List.mem_filter.2 ⟨hq, by
    have : ks.any (fun k => keyEq k q.1) = false := List.any_eq_false.2 fun k hk he => hn (by rw [← (keyEq_iff _ _).1 he]; exact hk)
    rw [this]; simp⟩, rfl⟩)

theorem sumBy_filter_le (g : Key → Bool) : ∀ {L : List (Key × Cnt)}, (∀ q ∈ L, 0 ≤ q.2.1 ∧ 0 ≤ q.2.2) → (sumBy (fun _ => true) (L.filter fun q => g q.1)).1 ≤ (sumBy (fun _ => true) L).1 ∧ (sumBy (fun _ => true) (L.filter fun q => g q.1)).2 ≤ (sumBy (fun _ => true) L).2
  | [], _ => by simp
  | q :: r, h => by
    have ih := sumBy_filter_le g (L := r) (fun x hx => h x (List.mem_cons_of_mem _ hx))
    have hq := h q List.mem_cons_self
    rw [List.filter_cons]
    split
    · simp only [sumBy]; simp only [if_true]; omega
    · simp only [sumBy]; simp only [if_true]; omega
theorem bnd_filter {L : List (Key × Cnt)} (h : Bnd L) (g : Key → Bool) : Bnd (L.filter fun q => g q.1) := by
  have := sumBy_filter_le g h.1
  exact ⟨fun q hq => h.1 q (List.mem_filter.1 hq).1, by have := h.2.1; omega, by have := h.2.2; omega⟩
theorem sumBy_forget (p : Key → Bool) (before : Int) (hp : ∀ k, p k = true → keepB before k = true) : ∀ L : List (Key × Cnt), sumBy p (forgetL before L) = sumBy p L
  | [] => rfl
  | q :: r => by
    have ih := sumBy_forget p before hp r
    unfold forgetL at ih ⊢
    rw [List.filter_cons]
    by_cases hq : p q.1 = true
    · rw [if_pos (hp _ hq)]; simp only [sumBy, ih]
    · split
      · simp only [sumBy, ih]
      · rw [ih, sumBy, if_neg hq]
theorem total_forget (before : Int) (L : List (Key × Cnt)) : sumBy isWhole (forgetL before L) = sumBy isWhole L := sumBy_forget _ _ (fun k hk => by
  have : k.2.1 = 0 := by simpa [isWhole] using hk
  simp [keepB, this]) L
theorem forget_gone (before : Int) (L : List (Key × Cnt)) : goneN before (sortK ((forgetL before L).map Prod.fst)) = 0 := by
  unfold goneN
  rw [List.length_eq_zero_iff, List.filter_eq_nil_iff]
  intro x hx
  have := (sortK_perm _).mem_iff.1 hx
  rw [keys_forget, List.mem_filter] at this
  simp [this.2]
theorem goneN_perm {before : Int} {a b : List Key} (h : a.Perm b) : goneN before a = goneN before b := (h.filter _).length_eq
/-- how many names the model counts for a day -/
def dayN (es : List Ev) (before d : Int) : Nat := if d < before then (allM es 1 d d).length + (allM es 2 d d).length + (allM es 3 d d).length else 0
theorem goneN_append (before : Int) (a b : List Key) : goneN before (a ++ b) = goneN before a + goneN before b := by simp [goneN, List.filter_append]
theorem goneN_names {es : List Ev} {before d kind : Int} (hk : kind ≠ 0) : goneN before (keysN es d kind) = if d < before then (allM es kind d d).length else 0 := by
  unfold goneN keysN
  rw [List.filter_map, List.length_map]
  have hp : ∀ n : ByteArray, ((fun k => !keepB before k) ∘ fun n => ((d, kind, n) : Key)) n = decide (d < before) := fun n => by simp [keepB, hk]
  by_cases h : d < before
  · rw [if_pos h, List.filter_eq_self.2 (fun n _ => by rw [hp]; simpa using h)]
  · rw [if_neg h, List.filter_eq_nil_iff.2 (fun n _ => by rw [hp]; simpa using h)]; rfl
theorem goneN_day (es : List Ev) (before lo d : Int) (h : lo ≤ d) : goneN before (keysD es lo d) = dayN es before d := by
  unfold keysD dayN
  rw [if_pos h, show ((d, 0, ByteArray.empty) :: (keysN es d 1 ++ keysN es d 2 ++ keysN es d 3) : List Key) = [(d, 0, ByteArray.empty)] ++ (keysN es d 1 ++ keysN es d 2 ++ keysN es d 3) from rfl,
    goneN_append, goneN_append, goneN_append, goneN_names (by decide), goneN_names (by decide), goneN_names (by decide)]
  have e0 : goneN before [(d, 0, ByteArray.empty)] = 0 := by simp [goneN, keepB]
  rw [e0]
  split <;> omega
theorem gone_model (es : List Ev) (before : Int) : goneN before (sortK ((addsL [] es).map Prod.fst)) = ((daysM (okEvs es)).map (dayN (okEvs es) before)).sum := by
  have h0 : ∀ d ∈ daysM (okEvs es), 0 ≤ d := fun d hd => by
    obtain ⟨e, he, rfl⟩ := ((daysM_facts _ (okEvs es) rfl).2 d).1 hd
    have hm := List.mem_filter.1 he
    obtain ⟨⟨h2, h3⟩, _⟩ := Ev.ok (by simpa using hm.2 : e.err = 0)
    omega
  have h1 := sort_forget es 0
  rw [forget_none es (Int.le_refl _)] at h1
  rw [h1]
  unfold keysM
  have key : ∀ ds : List Int, (∀ d ∈ ds, 0 ≤ d) → goneN before (ds.flatMap (keysD (okEvs es) 0)) = (ds.map (dayN (okEvs es) before)).sum := by
    intro ds
    induction ds with
    | nil => intro _; rfl
    | cons d r ih =>
      intro h
      rw [List.flatMap_cons, goneN_append, ih (fun x hx => h x (List.mem_cons_of_mem _ hx)), goneN_day _ _ _ _ (h d List.mem_cons_self), List.map_cons, List.sum_cons]
  exact key _ h0
end Go.Proofs.YtlemadbmlnjhpaaGreatDoor
namespace Go.Proofs.YtlemadbmlnjhpaaGreatDoor
open Go Go.RowKit Go.Proofs
set_option linter.unusedSimpArgs false
set_option linter.unusedVariables false

theorem SliceKey.kept {w w' : World} {v : Value} {ks : List Key} {sb m B : Nat} {L : List (Key × Cnt)} {zs : List Int} (h : SliceKey w v ks) (hs : StatsAt w sb m L zs) (hk : Kept B sb m w w') (hB : w.heap.size ≤ B) : SliceKey w' v ks := by
  obtain ⟨A, cc, h1, h2, h3, h4⟩ := h
  have key : ∀ bb o, A = some ⟨bb, o, none⟩ → w'.heap[bb]? = w.heap[bb]? := fun bb o hA => by
    obtain ⟨cs, hc⟩ := h4 bb o hA
    refine hk.block bb (by have := (Array.getElem?_eq_some_iff.1 hc).1; omega) (fun he => ?_) (fun he => ?_)
    · subst he
      rw [hs.1] at hc
      exact absurd (Obj.cells.inj (Option.some.inj hc)).2.1 (by decide)
    · subst he
      obtain ⟨es, clock, hm, _⟩ := hs.2.2
      rw [hm] at hc
      cases hc
  refine ⟨A, cc, h1, h2, fun k x hk => ?_, fun bb o hA => ?_⟩
  · obtain ⟨bb, o, e1, e2⟩ := h3 k x hk
    exact ⟨bb, o, e1, fun j u hj => (World.cell?_of_block (key bb o e1)).trans (e2 j u hj)⟩
  · obtain ⟨cs, hc⟩ := h4 bb o hA
    exact ⟨cs, (key bb o hA).trans hc⟩

/-- between two keys -/
structure ForgetAt (w wr : World) (sb m : Nat) (L : List (Key × Cnt)) (zs : List Int) (sv : Value) (ks : List Key) : Prop where
  st : StatsAt wr sb m L zs
  kept : Kept w.heap.size sb m w wr
  key : SliceKey wr sv ks
theorem ForgetAt.below {w wr w' : World} {sb m : Nat} {L : List (Key × Cnt)} {zs : List Int} {sv : Value} {ks : List Key} (h : ForgetAt w wr sb m L zs sv ks) (hb : Below wr.heap.size wr w') : ForgetAt w w' sb m L zs sv ks :=
  ⟨h.st.below hb, h.kept.below hb h.kept.size, h.key.below hb⟩
theorem ForgetAt.grown {w wr w' : World} {sb m : Nat} {L M : List (Key × Cnt)} {zs : List Int} {sv : Value} {ks : List Key} (h : ForgetAt w wr sb m L zs sv ks) (hm : MapIs w' m M) (hg : wr.grownBy w' (some m)) : ForgetAt w w' sb m M zs sv ks := by
  have hk : Kept wr.heap.size sb m wr w' := (Kept.refl _ _ _ _).grown hg (Nat.le_refl _)
  refine ⟨⟨?_, h.st.2.1, hm⟩, h.kept.grown hg h.kept.size, h.key.kept h.st hk (Nat.le_refl _)⟩
  rw [hg.block sb h.st.lt.1 (fun e => ?_)]
  · exact h.st.1
  · cases e
    obtain ⟨es, clock, hh, _⟩ := h.st.2.2
    have h1 := h.st.1
    rw [hh] at h1
    cases h1

set_option maxRecDepth 100000 in
set_option maxHeartbeats 3200000 in
theorem forget_any (sb m : Nat) (L : List (Key × Cnt)) (zs : List Int) (before : Int) (w : World) (h : StatsAt w sb m L zs) (hn : (L.map Prod.fst).Nodup) (hl : L.length ≤ 100000) :
    Calls Tryz.prog 19 #[.pointer (some ⟨sb, 0, none⟩), .int .i64 before] w fun e w' => e = .returned (.int .i64 (goneN before (sortK (L.map Prod.fst)) : Nat)) ∧ StatsAt w' sb m (forgetL before L) zs ∧ Kept w.heap.size sb m w w' := by
  have hs := sorted_any sb m L zs w h (by omega)
  obtain ⟨ks, hks⟩ : ∃ ks, ks = sortK (L.map Prod.fst) := ⟨_, rfl⟩
  rw [← hks] at hs ⊢
  have hkl : ks.length ≤ 100000 := by rw [hks, sortK_length, List.length_map]; exact hl
  have hkn : ks.Nodup := by rw [hks]; exact (sortK_perm _).nodup_iff.2 hn
  have hkm : ∀ x, x ∈ ks ↔ x ∈ L.map Prod.fst := fun x => by rw [hks]; exact (sortK_perm _).mem_iff
  have hs' := Lib.hid hs
  have h' := Lib.hid h
  have hkn' := Lib.hid hkn
  have hkm' := Lib.hid hkm
  have hn' := Lib.hid hn
  clear hs hks hkn hkm h hn
  go_enter Tryz.func19, Tryz.ntmps19
  go_wp2_with (go_at_call 36; fail)
  refine hs'.out.mono ?_
  rintro e w1 ⟨sv, rfl, hsk, hb⟩
  have hA0 : ForgetAt w w1 sb m (leftL before [] L) zs sv ks := ⟨by rw [leftL_nil]; exact h'.out.below hb, Kept.ofBelow hb, hsk⟩
  obtain ⟨A, c, rfl, hkb, _, _⟩ := hsk
  have hA0' := Lib.hid hA0
  clear hb hA0
  go_wp2_with fail
  go_loopw [5, 11] (fun nv i wr => ∃ k : Nat, k ≤ ks.length ∧ i = .int .i64 k ∧ nv = .int .i64 (goneN before (ks.take k) : Nat) ∧ ForgetAt w wr sb m (leftL before (ks.take k) L) zs (.slice A ks.length c) ks) (fun _ i _ => ks.length - (intOf i).toNat)
  case atStart => exact ⟨0, by omega, rfl, rfl, hA0'.out⟩
  case round =>
    obtain ⟨k, hk0, rfl, rfl, hA⟩ := hrel
    have hgl := goneN_le before (ks.take k)
    rw [List.length_take, Nat.min_eq_left hk0] at hgl
    obtain ⟨n, hnn⟩ : ∃ n, n = goneN before (ks.take k) := ⟨_, rfl⟩
    rw [← hnn] at hgl ⊢
    have hA' := Lib.hid hA
    have hnn' := Lib.hid hnn
    clear hA hnn
    by_cases hk : k < ks.length
    · obtain ⟨x, hx⟩ : ∃ x, ks[k]? = some x := ⟨_, List.getElem?_eq_getElem hk⟩
      obtain ⟨A2, c2, hform, _, hcells, _⟩ := hA'.out.key
      cases hform
      obtain ⟨b, o, rfl, hrg0⟩ := hcells k x hx
      have htk : ks.take (k + 1) = ks.take k ++ [x] := take_some hx
      have hnot : x ∉ ks.take k := fun hm => by
        obtain ⟨j, hj, hjx⟩ := List.getElem_of_mem hm
        have hj2 : j < k := by simp at hj; omega
        rw [List.getElem_take] at hjx
        have hkx := (List.getElem?_eq_some_iff.1 hx).2
        exact absurd ((List.getElem_inj hkn'.out).1 (hjx.trans hkx.symm)) (by omega)
      have hfind := find_left (before := before) ((hkm'.out x).1 (List.mem_of_getElem? hx)) hnot
      have hgs := goneN_snoc before (ks.take k) x
      rw [← htk, ← hnn'.out] at hgs
      have hkeep := leftL_keep (before := before) (ks := ks.take k) (x := x) L
      have hgone := leftL_gone (before := before) (ks := ks.take k) (x := x) L
      rw [← htk] at hkeep hgone
      have hnd := nodup_left (before := before) (ks := ks.take k) hn'.out
      obtain ⟨M, hM⟩ : ∃ M, M = leftL before (ks.take k) L := ⟨_, rfl⟩
      rw [← hM] at hA' hfind hkeep hgone hnd
      obtain ⟨k1, k2, k3⟩ := x
      have hrg : wr.rangeAt b (o + k * 3) [.int .i64 k1, .int .i64 k2, .string k3] := hrg0
      have hkb0 : keepB before (k1, k2, k3) = !(k2 != 0 && decide (k1 < before)) := rfl
      have hrg' := Lib.hid hrg
      have hfind' := Lib.hid hfind
      have hgs' := Lib.hid hgs
      have hkeep' := Lib.hid hkeep
      have hgone' := Lib.hid hgone
      have hnd' := Lib.hid hnd
      have hkb' := Lib.hid hkb0
      obtain ⟨W, hW⟩ : ∃ W, W = wr.alloc (.cells #[.int .i64 k1, .int .i64 k2, .string k3] 64) := ⟨_, rfl⟩
      have hAW : ForgetAt w W sb m M zs (.slice (some ⟨b, o, none⟩) ks.length c) ks := hA'.out.below (by rw [hW]; exact (Below.refl _ _).alloc (Nat.le_refl _) _)
      have hkH : W.heap[wr.heap.size]? = some (.cells #[.int .i64 k1, .int .i64 k2, .string k3] 64 (0, 0)) := by rw [hW]; exact heap_alloc_new wr _
      have hAW' := Lib.hid hAW
      have hkH' := Lib.hid hkH
      have hW' := Lib.hid hW
      clear hrg hrg0 hcells hx htk hnot hfind hgs hkeep hgone hnd hM hkb0 hAW hkH hW
      by_cases h0 : k2 = 0
      · subst h0
        have hkp : keepB before (k1, 0, k3) = true := by rw [hkb'.out]; rfl
        rw [hkp] at hgs'
        have hk1 := Lib.hid (hkeep'.out hkp)
        clear hkp
        go_wp2_with (first | (refine wpList_load_mid rfl 64 _ rfl b (o + k * 3) rfl _ _ hrg'.out Tryz.underlying64 rfl rfl ?_))
        rw [← hW'.out]
        exact ⟨⟨k + 1, by omega, by go_num, by rw [hgs'.out]; rfl, by rw [hk1.out]; exact hAW'.out⟩, by simp [intOf]; omega⟩
      · have hq0 : (k2 != 0) = true := by simpa using h0
        by_cases hlt : k1 < before
        · have hkp : keepB before (k1, k2, k3) = false := by rw [hkb'.out, hq0, decide_eq_true hlt]; rfl
          rw [hkp] at hgs'
          have hk1 := Lib.hid (hgone'.out hkp)
          obtain ⟨j, d, hfj⟩ := hfind'.out
          have hed := (erase_drop hnd'.out hfj).2
          rw [Nat.sub_zero] at hed
          obtain ⟨W2, hdel, hm2, hg2⟩ := MapIs.delete (w := W.drew) (show MapIs W.drew m M from hAW'.out.st.2.2) (k1, k2, k3) hfj
          rw [hed, ← hk1.out] at hm2
          have hdel2 : ∀ ty : TypeId, (Builtin.delete_ #[70, 64] ty #[.map (some m), .agg #[.int .i64 k1, .int .i64 k2, .string k3]]).run Tryz.prog W.drew = .ok (.tuple #[]) W2 := hdel
          have hAD : ForgetAt w W.drew sb m M zs (.slice (some ⟨b, o, none⟩) ks.length c) ks := hAW'.out.below (Below.refl _ _).drew
          have hA2 := Lib.hid (hAD.grown hm2 hg2)
          have c0 := hAW'.out.st.cell0
          have q0 : W.cell? ⟨wr.heap.size, 0, none⟩ = some (.int .i64 k1) := by rw [cell_of_row _ _ _ _ _ _ hkH'.out]; rfl
          have q1 : W.cell? ⟨wr.heap.size, 1, none⟩ = some (.int .i64 k2) := by rw [cell_of_row _ _ _ _ _ _ hkH'.out]; rfl
          have q2 : W.cell? ⟨wr.heap.size, 2, none⟩ = some (.string k3) := by rw [cell_of_row _ _ _ _ _ _ hkH'.out]; rfl
          have hne : ∀ x o v, W.cell? ⟨x, o, none⟩ = some v → x ≠ m := fun x o v hx e => by
            subst e
            obtain ⟨es, clock, hh, _⟩ := hAW'.out.st.2.2
            simp [World.cell?, hh] at hx
          have n1 := hne _ _ _ c0
          have n2 := hne _ _ _ q0
          have z1 : W2.cell? ⟨sb, 0, none⟩ = some (.map (some m)) := hg2.cell (show W.drew.cell? _ = _ from c0) (by simp; exact n1)
          have z2 : W2.cell? ⟨wr.heap.size, 0, none⟩ = some (.int .i64 k1) := hg2.cell (show W.drew.cell? _ = _ from q0) (by simp; exact n2)
          have z3 : W2.cell? ⟨wr.heap.size, 1, none⟩ = some (.int .i64 k2) := hg2.cell (show W.drew.cell? _ = _ from q1) (by simp; exact n2)
          have z4 : W2.cell? ⟨wr.heap.size, 2, none⟩ = some (.string k3) := hg2.cell (show W.drew.cell? _ = _ from q2) (by simp; exact n2)
          clear hkp hed hdel hm2 hg2 hAD hne hfj
          go_wp2_with (first | (refine wpList_load_mid rfl 64 _ rfl b (o + k * 3) rfl _ _ hrg'.out Tryz.underlying64 rfl rfl ?_))
          rw [← hW'.out]
          go_wp2_with fail
          go_region_held3 (fun w' => w'.cell? ⟨sb, 0, none⟩ = some (.map (some m)) ∧ w'.cell? ⟨wr.heap.size, 0, none⟩ = some (.int .i64 k1) ∧ w'.cell? ⟨wr.heap.size, 1, none⟩ = some (.int .i64 k2) ∧ w'.cell? ⟨wr.heap.size, 2, none⟩ = some (.string k3))
            (refine ⟨?_, ?_, ?_, ?_⟩ <;> first | assumption | (simp [*]; done))
            (fail)
          clear c0 q0 q1 q2 n1 n2 z1 z2 z3 z4 hdel2
          go_wp2_with fail
          exact ⟨⟨k + 1, by omega, by go_num, by rw [hgs'.out]; go_num, hA2.out⟩, by simp [intOf]; omega⟩
        · have hnl : before ≤ k1 := by omega
          have hkp : keepB before (k1, k2, k3) = true := by rw [hkb'.out, decide_eq_false hlt, Bool.and_false]; rfl
          rw [hkp] at hgs'
          have hk1 := Lib.hid (hkeep'.out hkp)
          clear hkp hlt
          go_wp2_with (first | (refine wpList_load_mid rfl 64 _ rfl b (o + k * 3) rfl _ _ hrg'.out Tryz.underlying64 rfl rfl ?_))
          rw [← hW'.out]
          go_wp2_with fail
          exact ⟨⟨k + 1, by omega, by go_num, by rw [hgs'.out]; rfl, by rw [hk1.out]; exact hAW'.out⟩, by simp [intOf]; omega⟩
    · obtain rfl : k = ks.length := by omega
      rw [List.take_length] at hA' hnn'
      rw [leftL_all (fun q hq => (hkm'.out _).2 (List.mem_map.2 ⟨q, hq, rfl⟩))] at hA'
      go_wp2_with fail
      go_ret
      exact ⟨by rw [← hnn'.out]; rfl, hA'.out.st, hA'.out.kept⟩
end Go.Proofs.YtlemadbmlnjhpaaGreatDoor
