/- delete on the map of counts; what Forget removes. -/
import Derived.Test.YtlemadbmlnjhpaaGreatDoorLP
import Derived.Test.YtlemadbmlnjhpaaGreatDoorLI
namespace Go.Proofs.YtlemadbmlnjhpaaGreatDoor
open Go Go.RowKit Go.Proofs
open Go.ChangeMaps (setBlock)
set_option linter.unusedSimpArgs false
set_option linter.unusedVariables false

theorem map_erase {α β : Type} (f : α → β) : ∀ (l : List α) (j : Nat), (l.eraseIdx j).map f = (l.map f).eraseIdx j
  | [], _ => rfl
  | _ :: _, 0 => rfl
  | x :: r, j + 1 => by simp only [List.eraseIdx_cons_succ, List.map_cons, map_erase f r j]
theorem MapIs.delete {w : World} {m : Nat} {L : List (Key × Cnt)} (h : MapIs w m L) (k : Key) {j : Nat} {d : Cnt} (hk : findL k L 0 = some (j, d)) :
    ∃ w', (∀ ty : TypeId, (Builtin.delete_ #[70, 64] ty #[.map (some m), keyV k]).run Tryz.prog w = .ok (.tuple #[]) w') ∧ MapIs w' m (L.eraseIdx j) ∧ w.grownBy w' (some m) := by
  obtain ⟨es, clock, h1, h2, h3, h4⟩ := h
  have hf := Tryz.run_findKey k w es.toList L h2
  have hc := Tryz.check_key es.isEmpty k w
  rw [hk] at hf
  refine ⟨setBlock w m (.map (es.eraseIdxIfInBounds j) clock), fun ty => ?_, ⟨es.eraseIdxIfInBounds j, clock, ?_, ?_, ?_, ?_⟩, ⟨rfl, rfl, rfl, by simp [setBlock], fun i _ hi => ?_⟩⟩
  · simp [Builtin.delete_, run_underlying Tryz.underlying70, MapKept.run_getObj_map h1, hc, hf, MapKept.run_setObj_map _ h1, Result.andThen, setBlock]
  · show (w.heap.setIfInBounds m _)[m]? = _
    rw [Array.getElem?_setIfInBounds, if_pos rfl, if_pos (Array.getElem?_eq_some_iff.1 h1).1]
  · rw [Array.toList_eraseIdxIfInBounds, map_erase, h2, ← map_erase]
  · rw [Array.toList_eraseIdxIfInBounds]
    exact h3.sublist (List.eraseIdx_sublist _ _)
  · intro e he
    rw [Array.toList_eraseIdxIfInBounds] at he
    exact h4 e ((List.eraseIdx_sublist _ _).subset he)
  · show (w.heap.setIfInBounds m _)[i]? = _
    rw [Array.getElem?_setIfInBounds]
    rw [if_neg (fun e => hi (by rw [e]))]
theorem erase_drop {k : Key} : ∀ {L : List (Key × Cnt)} {i j : Nat} {d : Cnt}, (L.map Prod.fst).Nodup → findL k L i = some (j, d) → i ≤ j ∧ L.eraseIdx (j - i) = L.filter fun q => !keyEq k q.1
  | [], i, j, d, _, h => by cases h
  | p :: r, i, j, d, hn, h => by
    rw [List.map_cons, List.nodup_cons] at hn
    unfold findL at h
    by_cases hp : keyEq k p.1 = true
    · rw [if_pos hp] at h
      obtain ⟨rfl, _⟩ : i = j ∧ p.2 = d := by injection h with h; injection h with h1 h2; exact ⟨h1, h2⟩
      refine ⟨Nat.le_refl _, ?_⟩
      rw [Nat.sub_self, List.eraseIdx_cons_zero, List.filter_cons, if_neg (by simp [hp])]
      symm
      rw [List.filter_eq_self]
      intro q hq
      have hne : ¬ keyEq k q.1 = true := fun he => hn.1 (by rw [← (keyEq_iff _ _).1 hp, (keyEq_iff _ _).1 he]; exact List.mem_map.2 ⟨q, hq, rfl⟩)
      simpa using hne
    · rw [if_neg hp] at h
      obtain ⟨h1, h2⟩ := erase_drop hn.2 h
      refine ⟨by omega, ?_⟩
      rw [show j - i = (j - (i + 1)) + 1 by omega, List.eraseIdx_cons_succ, h2, List.filter_cons, if_pos (by simpa using hp)]

/-- what is left behind the first keys of the sorted ones -/
def leftL (before : Int) (ks : List Key) (L : List (Key × Cnt)) : List (Key × Cnt) := L.filter fun q => keepB before q.1 || !ks.any fun k => keyEq k q.1
def goneN (before : Int) (ks : List Key) : Nat := (ks.filter fun k => !keepB before k).length
theorem leftL_nil (before : Int) (L : List (Key × Cnt)) : leftL before [] L = L := by simp [leftL]
theorem leftL_keep {before : Int} {ks : List Key} {x : Key} (L : List (Key × Cnt)) (h : keepB before x = true) : leftL before (ks ++ [x]) L = leftL before ks L := by
  unfold leftL
  refine List.filter_congr fun q _ => ?_
  by_cases hq : q.1 = x
  · rw [hq, h]; rfl
  · have he : keyEq x q.1 = false := by
      cases hb : keyEq x q.1 with
      | false => rfl
      | true => exact absurd ((keyEq_iff _ _).1 hb).symm hq
    simp [he]
theorem leftL_gone {before : Int} {ks : List Key} {x : Key} (L : List (Key × Cnt)) (h : keepB before x = false) : leftL before (ks ++ [x]) L = (leftL before ks L).filter fun q => !keyEq x q.1 := by
  unfold leftL
  rw [List.filter_filter]
  refine List.filter_congr fun q _ => ?_
  by_cases hq : q.1 = x
  · have he : keyEq x q.1 = true := (keyEq_iff _ _).2 hq.symm
    rw [he, hq, h]; rw [hq] at he; simp [he]
  · have he : keyEq x q.1 = false := by
      cases hb : keyEq x q.1 with
      | false => rfl
      | true => exact absurd ((keyEq_iff _ _).1 hb).symm hq
    rw [he]; simp [he]
theorem leftL_all {before : Int} {ks : List Key} {L : List (Key × Cnt)} (h : ∀ q ∈ L, q.1 ∈ ks) : leftL before ks L = forgetL before L := by
  unfold leftL forgetL
  refine List.filter_congr fun q hq => ?_
  have : ks.any (fun k => keyEq k q.1) = true := List.any_eq_true.2 ⟨q.1, h q hq, (keyEq_iff _ _).2 rfl⟩
  rw [this]; simp
theorem goneN_snoc (before : Int) (ks : List Key) (x : Key) : goneN before (ks ++ [x]) = goneN before ks + (if keepB before x then 0 else 1) := by
  unfold goneN
  rw [List.filter_append, List.length_append]
  by_cases h : keepB before x = true
  · simp [h]
  · simp [h]
theorem goneN_le (before : Int) (ks : List Key) : goneN before ks ≤ ks.length := List.length_filter_le _ _
theorem nodup_left {before : Int} {ks : List Key} {L : List (Key × Cnt)} (h : (L.map Prod.fst).Nodup) : ((leftL before ks L).map Prod.fst).Nodup :=
  h.sublist ((List.filter_sublist).map Prod.fst)
theorem find_left {before : Int} {ks : List Key} {x : Key} {L : List (Key × Cnt)} (hx : x ∈ L.map Prod.fst) (hn : x ∉ ks) : ∃ j c, findL x (leftL before ks L) 0 = some (j, c) := by
  obtain ⟨q, hq, rfl⟩ := List.mem_map.1 hx
  exact findL_of_mem _ _ 0 (List.mem_map.2 ⟨q, List.mem_filter.2 ⟨hq, by
    have : ks.any (fun k => keyEq k q.1) = false := List.any_eq_false.2 fun k hk he => hn (by rw [← (keyEq_iff _ _).1 he]; exact hk)
    rw [this]; simp⟩, rfl⟩)

theorem sumBy_filter_le (g : Key → Bool) : ∀ {L : List (Key × Cnt)}, (∀ q ∈ L, 0 ≤ q.2.1 ∧ 0 ≤ q.2.2) → (sumBy (fun _ => true) (L.filter fun q => g q.1)).1 ≤ (sumBy (fun _ => true) L).1 ∧ (sumBy (fun _ => true) (L.filter fun q => g q.1)).2 ≤ (sumBy (fun _ => true) L).2
  | [], _ => by simp
  | q :: r, h => by
    have ih := sumBy_filter_le g (L := r) (fun x hx => h x (List.mem_cons_of_mem _ hx))
    have hq := h q List.mem_cons_self
    rw [List.filter_cons]
    split
    · simp only [sumBy]; simp only [if_true]; omega
    · simp only [sumBy]; simp only [if_true]; omega
theorem bnd_filter {L : List (Key × Cnt)} (h : Bnd L) (g : Key → Bool) : Bnd (L.filter fun q => g q.1) := by
  have := sumBy_filter_le g h.1
  exact ⟨fun q hq => h.1 q (List.mem_filter.1 hq).1, by have := h.2.1; omega, by have := h.2.2; omega⟩
theorem sumBy_forget (p : Key → Bool) (before : Int) (hp : ∀ k, p k = true → keepB before k = true) : ∀ L : List (Key × Cnt), sumBy p (forgetL before L) = sumBy p L
  | [] => rfl
  | q :: r => by
    have ih := sumBy_forget p before hp r
    unfold forgetL at ih ⊢
    rw [List.filter_cons]
    by_cases hq : p q.1 = true
    · rw [if_pos (hp _ hq)]; simp only [sumBy, ih]
    · split
      · simp only [sumBy, ih]
      · rw [ih, sumBy, if_neg hq]
theorem total_forget (before : Int) (L : List (Key × Cnt)) : sumBy isWhole (forgetL before L) = sumBy isWhole L := sumBy_forget _ _ (fun k hk => by
  have : k.2.1 = 0 := by simpa [isWhole] using hk
  simp [keepB, this]) L
theorem forget_gone (before : Int) (L : List (Key × Cnt)) : goneN before (sortK ((forgetL before L).map Prod.fst)) = 0 := by
  unfold goneN
  rw [List.length_eq_zero_iff, List.filter_eq_nil_iff]
  intro x hx
  have := (sortK_perm _).mem_iff.1 hx
  rw [keys_forget, List.mem_filter] at this
  simp [this.2]
theorem goneN_perm {before : Int} {a b : List Key} (h : a.Perm b) : goneN before a = goneN before b := (h.filter _).length_eq
/-- how many names the model counts for a day -/
def dayN (es : List Ev) (before d : Int) : Nat := if d < before then (allM es 1 d d).length + (allM es 2 d d).length + (allM es 3 d d).length else 0
theorem goneN_append (before : Int) (a b : List Key) : goneN before (a ++ b) = goneN before a + goneN before b := by simp [goneN, List.filter_append]
theorem goneN_names {es : List Ev} {before d kind : Int} (hk : kind ≠ 0) : goneN before (keysN es d kind) = if d < before then (allM es kind d d).length else 0 := by
  unfold goneN keysN
  rw [List.filter_map, List.length_map]
  have hp : ∀ n : ByteArray, ((fun k => !keepB before k) ∘ fun n => ((d, kind, n) : Key)) n = decide (d < before) := fun n => by simp [keepB, hk]
  by_cases h : d < before
  · rw [if_pos h, List.filter_eq_self.2 (fun n _ => by rw [hp]; simpa using h)]
  · rw [if_neg h, List.filter_eq_nil_iff.2 (fun n _ => by rw [hp]; simpa using h)]; rfl
theorem goneN_day (es : List Ev) (before lo d : Int) (h : lo ≤ d) : goneN before (keysD es lo d) = dayN es before d := by
  unfold keysD dayN
  rw [if_pos h, show ((d, 0, ByteArray.empty) :: (keysN es d 1 ++ keysN es d 2 ++ keysN es d 3) : List Key) = [(d, 0, ByteArray.empty)] ++ (keysN es d 1 ++ keysN es d 2 ++ keysN es d 3) from rfl,
    goneN_append, goneN_append, goneN_append, goneN_names (by decide), goneN_names (by decide), goneN_names (by decide)]
  have e0 : goneN before [(d, 0, ByteArray.empty)] = 0 := by simp [goneN, keepB]
  rw [e0]
  split <;> omega
theorem gone_model (es : List Ev) (before : Int) : goneN before (sortK ((addsL [] es).map Prod.fst)) = ((daysM (okEvs es)).map (dayN (okEvs es) before)).sum := by
  have h0 : ∀ d ∈ daysM (okEvs es), 0 ≤ d := fun d hd => by
    obtain ⟨e, he, rfl⟩ := ((daysM_facts _ (okEvs es) rfl).2 d).1 hd
    have hm := List.mem_filter.1 he
    obtain ⟨⟨h2, h3⟩, _⟩ := Ev.ok (by simpa using hm.2 : e.err = 0)
    omega
  have h1 := sort_forget es 0
  rw [forget_none es (Int.le_refl _)] at h1
  rw [h1]
  unfold keysM
  have key : ∀ ds : List Int, (∀ d ∈ ds, 0 ≤ d) → goneN before (ds.flatMap (keysD (okEvs es) 0)) = (ds.map (dayN (okEvs es) before)).sum := by
    intro ds
    induction ds with
    | nil => intro _; rfl
    | cons d r ih =>
      intro h
      rw [List.flatMap_cons, goneN_append, ih (fun x hx => h x (List.mem_cons_of_mem _ hx)), goneN_day _ _ _ _ (h d List.mem_cons_self), List.map_cons, List.sum_cons]
  exact key _ h0
end Go.Proofs.YtlemadbmlnjhpaaGreatDoor
