/- Merging: the plain law. -/
/- maps.Clone at the map of counts. -/
/- Stats.Clone. (Printed by wip/gen_clone.py.) -/
import Derived.Test.YtlemadbmlnjhpaaGreatDoorH4
import Derived.Laws.Externs
import Derived.MapKept
import Derived.Shelf.SlMaps.Clone
namespace Go.Proofs.YtlemadbmlnjhpaaGreatDoor
open Go Go.RowKit Go.Proofs
set_option linter.unusedSimpArgs false
set_option linter.unusedVariables false

/-- one entry put to the counts -/
def plusL (L : List (Key × Cnt)) (q : Key × Cnt) : List (Key × Cnt) := putL q.1 ((getL q.1 L).1 + q.2.1, (getL q.1 L).2 + q.2.2) L
def mergeL (L M : List (Key × Cnt)) : List (Key × Cnt) := M.foldl plusL L
theorem mergeL_snoc (L M : List (Key × Cnt)) (q : Key × Cnt) : mergeL L (M ++ [q]) = plusL (mergeL L M) q := by simp [mergeL]
theorem getL_put (x k : Key) (c : Cnt) : ∀ L : List (Key × Cnt), getL x (putL k c L) = if keyEq x k then c else getL x L
  | [] => by
    unfold putL
    rw [getL_cons]
  | q :: r => by
    have ih := getL_put x k c r
    unfold putL
    by_cases hk : keyEq k q.1 = true
    · rw [if_pos hk, getL_cons, getL_cons]
      have e := (keyEq_iff _ _).1 hk
      by_cases hx : keyEq x k = true
      · rw [if_pos hx, if_pos hx]
      · rw [if_neg hx, if_neg hx, if_neg (by rw [← e]; exact hx)]
    · rw [if_neg hk, getL_cons, getL_cons, ih]
      by_cases hx : keyEq x q.1 = true
      · have hne : ¬ keyEq x k = true := fun h => hk (by rw [← (keyEq_iff _ _).1 h]; exact hx)
        rw [if_pos hx, if_pos hx, if_neg hne]
      · rw [if_neg hx, if_neg hx]
theorem mem_mergeL {x : Key} : ∀ {M L : List (Key × Cnt)}, x ∈ (mergeL L M).map Prod.fst ↔ x ∈ M.map Prod.fst ∨ x ∈ L.map Prod.fst
  | [], L => by simp [mergeL]
  | q :: r, L => by
    show x ∈ (mergeL (plusL L q) r).map Prod.fst ↔ _
    rw [mem_mergeL, plusL, mem_keys_putL, List.map_cons, List.mem_cons]
    constructor
    · rintro (h | h | h)
      · exact .inl (.inr h)
      · exact .inl (.inl h)
      · exact .inr h
    · rintro ((h | h) | h)
      · exact .inr (.inl h)
      · exact .inl h
      · exact .inr (.inr h)
theorem nodup_mergeL : ∀ {M L : List (Key × Cnt)}, (L.map Prod.fst).Nodup → ((mergeL L M).map Prod.fst).Nodup
  | [], L, h => h
  | q :: r, L, h => nodup_mergeL (M := r) (L := plusL L q) (nodup_putL h)
theorem getL_absent {x : Key} {L : List (Key × Cnt)} (h : x ∉ L.map Prod.fst) : getL x L = (0, 0) := by
  induction L with
  | nil => rfl
  | cons q r ih =>
    rw [List.map_cons, List.mem_cons, not_or] at h
    rw [getL_cons, if_neg (fun he => h.1 ((keyEq_iff _ _).1 he)), ih h.2]
theorem getL_merge (x : Key) : ∀ {M L : List (Key × Cnt)}, (M.map Prod.fst).Nodup → (getL x (mergeL L M)).1 = (getL x L).1 + (getL x M).1 ∧ (getL x (mergeL L M)).2 = (getL x L).2 + (getL x M).2
  | [], L, _ => by simp [mergeL, getL, findL]
  | q :: r, L, h => by
    rw [List.map_cons, List.nodup_cons] at h
    have ih := getL_merge x (M := r) (L := plusL L q) h.2
    have e : mergeL L (q :: r) = mergeL (plusL L q) r := rfl
    rw [e, ih.1, ih.2, plusL, getL_put, getL_cons]
    by_cases hx : keyEq x q.1 = true
    · have hxq := (keyEq_iff _ _).1 hx
      rw [if_pos hx, if_pos hx, getL_absent (x := x) (L := r) (by rw [hxq]; exact h.1), ← hxq]
      simp
    · rw [if_neg hx, if_neg hx]; exact ⟨rfl, rfl⟩
theorem addsL_ok : ∀ (es : List Ev) (L : List (Key × Cnt)), addsL L (okEvs es) = addsL L es
  | [], _ => rfl
  | e :: r, L => by
    rw [okEvs_cons]
    by_cases h : e.err = 0
    · rw [if_pos h]; exact addsL_ok r _
    · rw [if_neg h, addsL_ok r L]
      show addsL L r = addsL (addL L e.mi e.au e.gs e.ss e.b) r
      have h' : ¬ evErr e.mi e.gs e.ss e.b = 0 := h
      unfold addL
      rw [if_neg h']
theorem sumBy_append (p : Key → Bool) (es fs : List Ev) : (sumBy p (addsL [] (es ++ fs))).1 = (sumBy p (addsL [] es)).1 + (sumBy p (addsL [] fs)).1 ∧ (sumBy p (addsL [] (es ++ fs))).2 = (sumBy p (addsL [] es)).2 + (sumBy p (addsL [] fs)).2 := by
  have h1 := sum_adds_eq p (es ++ fs) []
  have h2 := sum_adds_eq p es []
  have h3 := sum_adds_eq p fs []
  simp only [List.map_append, List.sum_append, sumBy] at h1 h2 h3
  omega
theorem keys_append {x : Key} (es fs : List Ev) : x ∈ (addsL [] (es ++ fs)).map Prod.fst ↔ x ∈ (addsL [] fs).map Prod.fst ∨ x ∈ (addsL [] es).map Prod.fst := by
  rw [mem_keys_addsL, mem_keys_addsL, mem_keys_addsL]
  have e : okEvs (es ++ fs) = okEvs es ++ okEvs fs := by simp [okEvs]
  rw [e]
  simp only [List.mem_append, List.map_nil, List.not_mem_nil, or_false]
  constructor
  · rintro ⟨e, he | he, hk⟩
    · exact .inr ⟨e, he, hk⟩
    · exact .inl ⟨e, he, hk⟩
  · rintro (⟨e, he, hk⟩ | ⟨e, he, hk⟩)
    · exact ⟨e, .inr he, hk⟩
    · exact ⟨e, .inl he, hk⟩
/-- the counts of two lists, merged in whatever order the second's entries come -/
theorem merge_same {es fs : List Ev} {M : List (Key × Cnt)} (h : M.Perm (addsL [] fs)) : SameK (mergeL (addsL [] es) M) (addsL [] (es ++ fs)) := by
  have hM : (M.map Prod.fst).Nodup := (h.map Prod.fst).nodup_iff.2 (nodup_adds fs)
  have hN := nodup_mergeL (M := M) (nodup_adds es)
  have hA := nodup_adds (es ++ fs)
  refine ⟨hN, hA, perm_of_nodup hN hA fun x => ?_, fun x => ?_⟩
  · rw [mem_mergeL, keys_append, (h.map Prod.fst).mem_iff]
  · have h1 := getL_merge x (L := addsL [] es) hM
    have hg : getL x M = getL x (addsL [] fs) := by rw [getL_sum x M hM, getL_sum x _ (nodup_adds fs), sumBy_perm _ h]
    rw [hg] at h1
    have h2 := sumBy_append (fun k => keyEq x k) es fs
    rw [← getL_sum x _ hA, ← getL_sum x _ (nodup_adds es), ← getL_sum x _ (nodup_adds fs)] at h2
    exact Prod.ext (by rw [h1.1, h2.1]) (by rw [h1.2, h2.2])
theorem SameK.trans {L M N : List (Key × Cnt)} (h : SameK L M) (k : SameK M N) : SameK L N := ⟨h.nl, k.nm, h.keys.trans k.keys, fun x => (h.get x).trans (k.get x)⟩
theorem merge_comm (es fs : List Ev) : SameK (addsL [] (es ++ fs)) (addsL [] (fs ++ es)) := sameK_perm List.perm_append_comm

/-! ### the sizes -/
def plusZ (zs us : List Int) : List Int := List.zipWith (· + ·) zs us
theorem szM_getD : ∀ (n : Nat) (es : List Ev), es.length = n → ∀ i, i < 18 → (szM es).getD i 0 = ((es.filter fun e => decide (Lib.bitLen e.b.toNat = i)).length : Nat)
  | 0, es, h, i, hi => by
    rw [List.eq_nil_of_length_eq_zero h]
    have : i = 0 ∨ i = 1 ∨ i = 2 ∨ i = 3 ∨ i = 4 ∨ i = 5 ∨ i = 6 ∨ i = 7 ∨ i = 8 ∨ i = 9 ∨ i = 10 ∨ i = 11 ∨ i = 12 ∨ i = 13 ∨ i = 14 ∨ i = 15 ∨ i = 16 ∨ i = 17 := by omega
    rcases this with rfl | rfl | rfl | rfl | rfl | rfl | rfl | rfl | rfl | rfl | rfl | rfl | rfl | rfl | rfl | rfl | rfl | rfl <;> rfl
  | n + 1, es, h, i, hi => by
    obtain ⟨xs, e, rfl⟩ : ∃ xs e, es = xs ++ [e] := ⟨es.dropLast, es.getLast (by intro h0; subst h0; simp at h), (List.dropLast_concat_getLast _).symm⟩
    have ih := szM_getD n xs (by simpa using h) i hi
    rw [szM_snoc, incZ_getD _ _ _ (by rw [szM_len]; exact hi), ih, List.filter_append, List.length_append]
    by_cases hb : Lib.bitLen e.b.toNat = i
    · rw [if_pos hb, List.filter_cons, if_pos (by simpa using hb)]; simp
    · rw [if_neg hb, List.filter_cons, if_neg (by simpa using hb)]; simp
theorem szM_append (es fs : List Ev) : plusZ (szM es) (szM fs) = szM (es ++ fs) := by
  refine list_ext_getD (by simp [plusZ, szM_len]) fun j hj => ?_
  have hj2 : j < 18 := by simpa [plusZ, szM_len] using hj
  rw [szM_getD _ _ rfl j hj2, List.filter_append, List.length_append]
  have e1 := szM_getD _ es rfl j hj2
  have e2 := szM_getD _ fs rfl j hj2
  have hz : (plusZ (szM es) (szM fs)).getD j 0 = (szM es).getD j 0 + (szM fs).getD j 0 := by
    unfold plusZ
    rw [List.getD_eq_getElem?_getD, List.getElem?_zipWith, List.getD_eq_getElem?_getD, List.getD_eq_getElem?_getD,
      List.getElem?_eq_getElem (show j < (szM es).length by rw [szM_len]; exact hj2), List.getElem?_eq_getElem (show j < (szM fs).length by rw [szM_len]; exact hj2)]
    rfl
  rw [hz, e1, e2]; omega
theorem okEvs_self {es : List Ev} (h : ∀ e ∈ es, e.err = 0) : okEvs es = es := List.filter_eq_self.2 fun e he => by simpa using h e he
theorem addsZ_merge (es fs : List Ev) : plusZ (addsZ noSizes es) (addsZ noSizes fs) = addsZ noSizes (es ++ fs) := by
  rw [addsZ_szM, addsZ_szM, addsZ_szM, szM_append]
  simp [okEvs]
/-! ### bounds -/
theorem mem_putM {k : Key} {c : Cnt} {q : Key × Cnt} : ∀ {L : List (Key × Cnt)}, q ∈ putL k c L → q = (k, c) ∨ q ∈ L
  | [], h => by simp [putL] at h; exact .inl h
  | p :: r, h => by
    unfold putL at h
    split at h
    · rcases List.mem_cons.1 h with h | h
      · exact .inl h
      · exact .inr (List.mem_cons_of_mem _ h)
    · rcases List.mem_cons.1 h with h | h
      · exact .inr (by rw [h]; exact List.mem_cons_self)
      · rcases mem_putM h with h | h
        · exact .inl h
        · exact .inr (List.mem_cons_of_mem _ h)
theorem sumBy_plus (p : Key → Bool) (L : List (Key × Cnt)) (q : Key × Cnt) : (sumBy p (plusL L q)).1 = (sumBy p L).1 + (if p q.1 then q.2.1 else 0) ∧ (sumBy p (plusL L q)).2 = (sumBy p L).2 + (if p q.1 then q.2.2 else 0) := by
  have h := sumBy_put p q.1 ((getL q.1 L).1 + q.2.1, (getL q.1 L).2 + q.2.2) L
  unfold plusL
  rw [h.1, h.2]
  by_cases hp : p q.1 = true
  · simp only [hp, if_true]; constructor <;> omega
  · simp only [hp, if_false]; simp
theorem sumBy_merge (p : Key → Bool) : ∀ (D L : List (Key × Cnt)), (sumBy p (mergeL L D)).1 = (sumBy p L).1 + (sumBy p D).1 ∧ (sumBy p (mergeL L D)).2 = (sumBy p L).2 + (sumBy p D).2
  | [], L => by simp [mergeL, sumBy]
  | q :: r, L => by
    have ih := sumBy_merge p r (plusL L q)
    have h := sumBy_plus p L q
    have e : mergeL L (q :: r) = mergeL (plusL L q) r := rfl
    rw [e, ih.1, ih.2, h.1, h.2]
    simp only [sumBy]
    by_cases hp : p q.1 = true
    · simp only [hp, if_true]; constructor <;> omega
    · simp only [hp]; simp
theorem nonneg_merge : ∀ {D L : List (Key × Cnt)}, (∀ q ∈ L, 0 ≤ q.2.1 ∧ 0 ≤ q.2.2) → (∀ q ∈ D, 0 ≤ q.2.1 ∧ 0 ≤ q.2.2) → ∀ q ∈ mergeL L D, 0 ≤ q.2.1 ∧ 0 ≤ q.2.2
  | [], L, h, _ => h
  | d :: r, L, h, hd => by
    refine nonneg_merge (D := r) (L := plusL L d) (fun q hq => ?_) (fun q hq => hd q (List.mem_cons_of_mem _ hq))
    have hg := getL_nonneg (k := d.1) h
    have h0 := hd d List.mem_cons_self
    rcases mem_putM hq with rfl | hq
    · exact ⟨by show 0 ≤ _ + _; omega, by show 0 ≤ _ + _; omega⟩
    · exact h q hq
theorem bnd_merge {D L : List (Key × Cnt)} (hL : ∀ q ∈ L, 0 ≤ q.2.1 ∧ 0 ≤ q.2.2) (hD : ∀ q ∈ D, 0 ≤ q.2.1 ∧ 0 ≤ q.2.2) (h1 : (sumBy (fun _ => true) L).1 + (sumBy (fun _ => true) D).1 ≤ 1000000000000) (h2 : (sumBy (fun _ => true) L).2 + (sumBy (fun _ => true) D).2 ≤ 1000000000000) : Bnd (mergeL L D) := by
  have h := sumBy_merge (fun _ => true) D L
  exact ⟨nonneg_merge hL hD, by rw [h.1]; exact h1, by rw [h.2]; exact h2⟩
theorem sumBy_app (p : Key → Bool) : ∀ (a b : List (Key × Cnt)), (sumBy p (a ++ b)).1 = (sumBy p a).1 + (sumBy p b).1 ∧ (sumBy p (a ++ b)).2 = (sumBy p a).2 + (sumBy p b).2
  | [], b => by simp [sumBy]
  | q :: r, b => by
    have ih := sumBy_app p r b
    rw [List.cons_append]
    simp only [sumBy]
    split
    · simp only [ih.1, ih.2]; constructor <;> omega
    · exact ih
/-- the first sizes have been added -/
def partZ (zs us : List Int) (i : Nat) : List Int := (plusZ zs us).take i ++ zs.drop i
theorem partZ_len {zs us : List Int} (h : zs.length = us.length) {i : Nat} (hi : i ≤ zs.length) : (partZ zs us i).length = zs.length := by
  unfold partZ plusZ
  simp; omega
theorem partZ_zero (zs us : List Int) : partZ zs us 0 = zs := by simp [partZ]
theorem partZ_all {zs us : List Int} (h : zs.length = us.length) : partZ zs us zs.length = plusZ zs us := by
  unfold partZ
  rw [List.drop_length, List.append_nil, List.take_of_length_le (by simp [plusZ]; omega)]
theorem partZ_get {zs us : List Int} (h : zs.length = us.length) {i : Nat} (hi : i < zs.length) : (partZ zs us i).getD i 0 = zs.getD i 0 := by
  unfold partZ
  rw [List.getD_eq_getElem?_getD, List.getElem?_append_right (by simp [plusZ]; omega), List.length_take, List.getElem?_drop, List.getD_eq_getElem?_getD]
  congr 2
  simp [plusZ]; omega
theorem partZ_set {zs us : List Int} (h : zs.length = us.length) {i : Nat} (hi : i < zs.length) : (partZ zs us i).set i (zs.getD i 0 + us.getD i 0) = partZ zs us (i + 1) := by
  have hz : (plusZ zs us)[i]? = some (zs.getD i 0 + us.getD i 0) := by
    unfold plusZ
    rw [List.getElem?_zipWith, List.getElem?_eq_getElem hi, List.getElem?_eq_getElem (show i < us.length by omega), List.getD_eq_getElem?_getD, List.getD_eq_getElem?_getD, List.getElem?_eq_getElem hi, List.getElem?_eq_getElem (show i < us.length by omega)]
    rfl
  refine List.ext_getElem? fun j => ?_
  have hl : ((plusZ zs us).take i).length = i := by simp [plusZ]; omega
  have hl2 : ((plusZ zs us).take (i + 1)).length = i + 1 := by simp [plusZ]; omega
  rw [List.getElem?_set, partZ_len h (by omega)]
  by_cases hij : i = j
  · subst hij
    rw [if_pos rfl, if_pos hi]
    unfold partZ
    rw [List.getElem?_append_left (by omega), List.getElem?_take, if_pos (by omega), hz]
  · rw [if_neg hij]
    unfold partZ
    by_cases hj : j < i
    · rw [List.getElem?_append_left (by omega), List.getElem?_append_left (by omega), List.getElem?_take, List.getElem?_take, if_pos hj, if_pos (by omega)]
    · rw [List.getElem?_append_right (by omega), List.getElem?_append_right (by omega), hl, hl2, List.getElem?_drop, List.getElem?_drop]
      congr 1; omega
end Go.Proofs.YtlemadbmlnjhpaaGreatDoor
namespace Go.Proofs.YtlemadbmlnjhpaaGreatDoor
open Go Go.RowKit Go.Proofs
set_option linter.unusedSimpArgs false
set_option linter.unusedVariables false

theorem Tryz.eql_map_nil (m : Nat) (w : World) : (binOp .eql 70 (.map (some m)) (.map none)).run Tryz.prog w = .ok (.bool false) w := by kernel_rfl
set_option maxRecDepth 100000 in
set_option maxHeartbeats 1600000 in
theorem mapsClone_any (m : Nat) (L : List (Key × Cnt)) (w : World) (h : MapIs w m L) :
    Calls Tryz.prog 46 #[.map (some m)] w fun e w' => e = .returned (.map (some w.heap.size)) ∧ MapIs w' w.heap.size L ∧ Below w.heap.size w w' ∧ w'.heap.size = w.heap.size + 1 := by
  obtain ⟨es, clock, h1, h2, h3, h4⟩ := h
  have hq := fun W => Tryz.eql_map_nil m W
  have hr : ∃ W, W = w.alloc (.map es clock) := ⟨_, rfl⟩
  obtain ⟨W, hW⟩ := hr
  have hend : Hid (MapIs W w.heap.size L ∧ Below w.heap.size w W ∧ W.heap.size = w.heap.size + 1) := by
    rw [hW]
    exact ⟨⟨es, clock, heap_alloc_new w _, h2, h3, h4⟩, (Below.refl _ _).alloc (Nat.le_refl _) _, by simp⟩
  have hrun := run_maps_clone_sl (P := Tryz.prog) w 70 h1
  rw [← hW] at hrun
  have hrun' := Lib.hid hrun
  clear hrun hW h1 h2 h3 h4
  go_enter Tryz.func46, Tryz.ntmps46
  go_wp2_with fail
  rw [run_callFunc_extern Tryz.func67 (by kernel_rfl) (by kernel_rfl) (by kernel_rfl) (e := Extern.MapsClone.clone) (by kernel_rfl), hrun'.out]
  simp only [Result.andThen]
  rw [Oper.upon_value]
  go_wp2_with fail
  rw [run_typeAssert_map_sl _ 70 20 _ _ _ Tryz.underlying70]
  simp only [Result.andThen]
  rw [Oper.upon_value]
  go_wp2_with fail
  go_ret
  exact ⟨rfl, hend.out⟩
end Go.Proofs.YtlemadbmlnjhpaaGreatDoor
namespace Go.Proofs.YtlemadbmlnjhpaaGreatDoor
open Go Go.RowKit Go.Proofs
set_option linter.unusedSimpArgs false
set_option linter.unusedVariables false

theorem keepC {w W' : World} {sb m : Nat} {L : List (Key × Cnt)} {z0 z1 z2 z3 z4 z5 z6 z7 z8 z9 z10 z11 z12 z13 z14 z15 z16 z17 : Int} (h : StatsAt w sb m L [z0, z1, z2, z3, z4, z5, z6, z7, z8, z9, z10, z11, z12, z13, z14, z15, z16, z17]) (hb : Below w.heap.size w W') :
    Below w.heap.size w W' ∧ W'.rangeAt sb 1 [.int .i64 z0, .int .i64 z1, .int .i64 z2, .int .i64 z3, .int .i64 z4, .int .i64 z5, .int .i64 z6, .int .i64 z7, .int .i64 z8, .int .i64 z9, .int .i64 z10, .int .i64 z11, .int .i64 z12, .int .i64 z13, .int .i64 z14, .int .i64 z15, .int .i64 z16, .int .i64 z17] ∧ W'.cell? ⟨sb, 0, none⟩ = some (.map (some m)) := by
  have a := h.below hb
  exact ⟨hb, a.range, a.cell0⟩
theorem Tryz.build_stats (n : Nat) (z0 z1 z2 z3 z4 z5 z6 z7 z8 z9 z10 z11 z12 z13 z14 z15 z16 z17 : Int) (w : World) : (Instr.build 72 #[(0, .map (some n)), (1, .agg #[.int .i64 z0, .int .i64 z1, .int .i64 z2, .int .i64 z3, .int .i64 z4, .int .i64 z5, .int .i64 z6, .int .i64 z7, .int .i64 z8, .int .i64 z9, .int .i64 z10, .int .i64 z11, .int .i64 z12, .int .i64 z13, .int .i64 z14, .int .i64 z15, .int .i64 z16, .int .i64 z17])]).run Tryz.prog w = .ok (.agg #[.map (some n), .int .i64 z0, .int .i64 z1, .int .i64 z2, .int .i64 z3, .int .i64 z4, .int .i64 z5, .int .i64 z6, .int .i64 z7, .int .i64 z8, .int .i64 z9, .int .i64 z10, .int .i64 z11, .int .i64 z12, .int .i64 z13, .int .i64 z14, .int .i64 z15, .int .i64 z16, .int .i64 z17]) w := by kernel_rfl
set_option maxRecDepth 100000 in
set_option maxHeartbeats 3200000 in
theorem clone_lit (sb m : Nat) (L : List (Key × Cnt)) (z0 z1 z2 z3 z4 z5 z6 z7 z8 z9 z10 z11 z12 z13 z14 z15 z16 z17 : Int) (w : World) (h : StatsAt w sb m L [z0, z1, z2, z3, z4, z5, z6, z7, z8, z9, z10, z11, z12, z13, z14, z15, z16, z17]) :
    Calls Tryz.prog 23 #[.pointer (some ⟨sb, 0, none⟩)] w fun e w' => e = .returned (.pointer (some ⟨w.heap.size + 1, 0, none⟩)) ∧ StatsAt w' (w.heap.size + 1) w.heap.size L [z0, z1, z2, z3, z4, z5, z6, z7, z8, z9, z10, z11, z12, z13, z14, z15, z16, z17] ∧ Below w.heap.size w w' := by
  have hi : (Tryz.prog.info? 41).map (·.size) = some 18 := Tryz.sizeArr
  have hu := Tryz.underlying41
  have h' := Lib.hid h
  clear h
  go_enter Tryz.func23, Tryz.ntmps23
  go_wp2_with fail
  refine wp_region_noPanic ?_
  have hH := keepC h'.out (Below.refl w.heap.size w).drew
  refine wp_region_held_drew (S := (fun W' => Below w.heap.size w W' ∧ W'.rangeAt sb 1 [.int .i64 z0, .int .i64 z1, .int .i64 z2, .int .i64 z3, .int .i64 z4, .int .i64 z5, .int .i64 z6, .int .i64 z7, .int .i64 z8, .int .i64 z9, .int .i64 z10, .int .i64 z11, .int .i64 z12, .int .i64 z13, .int .i64 z14, .int .i64 z15, .int .i64 z16, .int .i64 z17] ∧ W'.cell? ⟨sb, 0, none⟩ = some (.map (some m)))) (by kernel_rfl) hH (fun _ => ?_)
  refine wpAnyH_take (i := 0) (oi := { dst := some 5, op := Op.move (Operand.tmp 0), type := 30, pos := "stats.go:430", after := #[], guard := none }) (v := (.pointer (some ⟨sb, 0, none⟩))) rfl (by kernel_rfl) (by kernel_rfl) (by kernel_rfl) (fun _ _ _ h => h) (Or.inl ⟨by rfl, fun w hSw => by obtain ⟨hSb, hSr, hSc⟩ := hSw; clear hSb hSr; go_simp⟩) hH ?_
  try simp only [Act.put, List.setIfInBounds_toArray, List.set_cons_zero, List.set_cons_succ]
  refine wpAnyH_take (i := 1) (oi := { dst := some 6, op := Op.nilCheck (Operand.tmp 5), type := 0, pos := "stats.go:430", after := #[{ on := 0, ground := Ground.data }], guard := none }) (v := (.pointer (some ⟨sb, 0, none⟩))) rfl (by kernel_rfl) (by kernel_rfl) (by kernel_rfl) (fun _ _ _ h => h) (Or.inl ⟨by rfl, fun w hSw => by obtain ⟨hSb, hSr, hSc⟩ := hSw; clear hSb hSr; go_simp⟩) hH ?_
  try simp only [Act.put, List.setIfInBounds_toArray, List.set_cons_zero, List.set_cons_succ]
  refine wpAnyH_take (i := 2) (oi := { dst := some 7, op := Op.fieldAddr 72 (Operand.tmp 6) 0, type := 0, pos := "stats.go:430", after := #[{ on := 1, ground := Ground.data }], guard := none }) (v := (.pointer (some ⟨sb, 0, none⟩))) rfl (by kernel_rfl) (by kernel_rfl) (by kernel_rfl) (fun _ _ _ h => h) (Or.inl ⟨by rfl, fun w hSw => by obtain ⟨hSb, hSr, hSc⟩ := hSw; clear hSb hSr; go_simp⟩) hH ?_
  try simp only [Act.put, List.setIfInBounds_toArray, List.set_cons_zero, List.set_cons_succ]
  refine wpAnyH_take (i := 3) (oi := { dst := some 8, op := Op.load 70 (Operand.tmp 7), type := 70, pos := "stats.go:430", after := #[{ on := 2, ground := Ground.data }], guard := none }) (v := (.map (some m))) rfl (by kernel_rfl) (by kernel_rfl) (by kernel_rfl) (fun _ _ _ h => h) (Or.inl ⟨by rfl, fun w hSw => by obtain ⟨hSb, hSr, hSc⟩ := hSw; clear hSb hSr; go_simp⟩) hH ?_
  try simp only [Act.put, List.setIfInBounds_toArray, List.set_cons_zero, List.set_cons_succ]
  refine wpAnyH_take (i := 5) (oi := { dst := some 10, op := Op.move (Operand.tmp 0), type := 30, pos := "stats.go:430", after := #[], guard := none }) (v := (.pointer (some ⟨sb, 0, none⟩))) rfl (by kernel_rfl) (by kernel_rfl) (by kernel_rfl) (fun _ _ _ h => h) (Or.inl ⟨by rfl, fun w hSw => by obtain ⟨hSb, hSr, hSc⟩ := hSw; clear hSb hSr; go_simp⟩) hH ?_
  try simp only [Act.put, List.setIfInBounds_toArray, List.set_cons_zero, List.set_cons_succ]
  refine wpAnyH_take (i := 6) (oi := { dst := some 11, op := Op.nilCheck (Operand.tmp 10), type := 0, pos := "stats.go:430", after := #[{ on := 5, ground := Ground.data }], guard := none }) (v := (.pointer (some ⟨sb, 0, none⟩))) rfl (by kernel_rfl) (by kernel_rfl) (by kernel_rfl) (fun _ _ _ h => h) (Or.inl ⟨by rfl, fun w hSw => by obtain ⟨hSb, hSr, hSc⟩ := hSw; clear hSb hSr; go_simp⟩) hH ?_
  try simp only [Act.put, List.setIfInBounds_toArray, List.set_cons_zero, List.set_cons_succ]
  refine wpAnyH_take (i := 7) (oi := { dst := some 12, op := Op.fieldAddr 72 (Operand.tmp 11) 1, type := 0, pos := "stats.go:430", after := #[{ on := 6, ground := Ground.data }], guard := none }) (v := (.pointer (some ⟨sb, 1, none⟩))) rfl (by kernel_rfl) (by kernel_rfl) (by kernel_rfl) (fun _ _ _ h => h) (Or.inl ⟨by rfl, fun w hSw => by obtain ⟨hSb, hSr, hSc⟩ := hSw; clear hSb hSr; go_simp⟩) hH ?_
  try simp only [Act.put, List.setIfInBounds_toArray, List.set_cons_zero, List.set_cons_succ]
  refine wpAnyH_take (i := 8) (oi := { dst := some 13, op := Op.load 41 (Operand.tmp 12), type := 41, pos := "stats.go:430", after := #[{ on := 7, ground := Ground.data }], guard := none }) (v := (.agg #[.int .i64 z0, .int .i64 z1, .int .i64 z2, .int .i64 z3, .int .i64 z4, .int .i64 z5, .int .i64 z6, .int .i64 z7, .int .i64 z8, .int .i64 z9, .int .i64 z10, .int .i64 z11, .int .i64 z12, .int .i64 z13, .int .i64 z14, .int .i64 z15, .int .i64 z16, .int .i64 z17])) rfl (by kernel_rfl) (by kernel_rfl) (by kernel_rfl) (fun _ _ _ h => h) (yieldsIf_load_mid (by rfl) _ _ rfl sb 1 rfl _ _ (fun W' hW => hW.2.1) hu rfl hi) hH ?_
  try simp only [Act.put, List.setIfInBounds_toArray, List.set_cons_zero, List.set_cons_succ]
  refine wpAnyH_ready (rs := [4]) (by kernel_rfl) (by simp) ?_
  refine AllReadyH.cons (o := { dst := some 9, op := Op.call { callee := Callee.value (Operand.func 46), args := #[Operand.tmp 8], argTypes := #[70] }, type := 70, pos := "stats.go:430", after := #[{ on := 3, ground := Ground.data }], guard := none }) rfl (fun K hK => ?_) AllReadyH.nil
  go_simp
  go_at_call 46
  refine (mapsClone_any m L _ (h'.out.below (Below.refl w.heap.size w).drew).2.2).mono ?_
  rintro e w5 ⟨rfl, hm5, hb50, hs5⟩
  have hb5 : Below w.heap.size w w5 := (Below.refl w.heap.size w).drew.trans hb50
  have hH5 := keepC h'.out hb5
  refine hK.out _ _ hH5 (fun _ => ?_)
  clear hK hb50
  try simp only [Act.put, List.setIfInBounds_toArray, List.set_cons_zero, List.set_cons_succ]
  refine wpAnyH_take (i := 9) (oi := { dst := some 14, op := Op.build 72 #[(0, Operand.tmp 9), (1, Operand.tmp 13)], type := 72, pos := "stats.go:430", after := #[{ on := 4, ground := Ground.data }, { on := 8, ground := Ground.data }], guard := none }) (v := (.agg #[.map (some w.heap.size), .int .i64 z0, .int .i64 z1, .int .i64 z2, .int .i64 z3, .int .i64 z4, .int .i64 z5, .int .i64 z6, .int .i64 z7, .int .i64 z8, .int .i64 z9, .int .i64 z10, .int .i64 z11, .int .i64 z12, .int .i64 z13, .int .i64 z14, .int .i64 z15, .int .i64 z16, .int .i64 z17])) rfl (by kernel_rfl) (by kernel_rfl) (by kernel_rfl) (fun _ _ _ h => h) (Or.inl ⟨by rfl, fun W' hSw => by have hb := Tryz.build_stats w.heap.size z0 z1 z2 z3 z4 z5 z6 z7 z8 z9 z10 z11 z12 z13 z14 z15 z16 z17 W'; clear hSw; go_simp⟩) hH5 ?_
  try simp only [Act.put, List.setIfInBounds_toArray, List.set_cons_zero, List.set_cons_succ]
  refine wpAnyH_ready (rs := [10]) (by kernel_rfl) (by simp) ?_
  refine AllReadyH.cons (o := { dst := some 15, op := Op.box 72 (Operand.tmp 14), type := 30, pos := "stats.go:430", after := #[{ on := 9, ground := Ground.data }], guard := none }) rfl (fun K hK => ?_) AllReadyH.nil
  go_simp
  obtain ⟨w6, hw6⟩ : ∃ w6, w6 = w5.alloc (.cells #[.map (some w.heap.size), .int .i64 z0, .int .i64 z1, .int .i64 z2, .int .i64 z3, .int .i64 z4, .int .i64 z5, .int .i64 z6, .int .i64 z7, .int .i64 z8, .int .i64 z9, .int .i64 z10, .int .i64 z11, .int .i64 z12, .int .i64 z13, .int .i64 z14, .int .i64 z15, .int .i64 z16, .int .i64 z17] 72) := ⟨_, rfl⟩
  rw [← hw6]
  have hs5' : w5.heap.size = w.heap.size + 1 := hs5
  have hb6 : Below w.heap.size w w6 := by rw [hw6]; exact hb5.alloc hb5.size _
  have hH6 := keepC h'.out hb6
  refine hK.out _ _ hH6 (fun _ => ?_)
  clear hK
  try simp only [Act.put, List.setIfInBounds_toArray, List.set_cons_zero, List.set_cons_succ]
  refine wpAnyH_take (i := 11) (oi := { dst := some 2, op := Op.assign (Operand.tmp 15), type := 30, pos := "stats.go:430", after := #[{ on := 10, ground := Ground.data }, { on := 4, ground := Ground.chain }, { on := 0, ground := Ground.phase }, { on := 1, ground := Ground.phase }, { on := 2, ground := Ground.phase }, { on := 3, ground := Ground.phase }, { on := 4, ground := Ground.phase }, { on := 5, ground := Ground.phase }, { on := 6, ground := Ground.phase }, { on := 7, ground := Ground.phase }, { on := 8, ground := Ground.phase }, { on := 9, ground := Ground.phase }, { on := 10, ground := Ground.phase }], guard := none }) (v := (.pointer (some ⟨w5.heap.size, 0, none⟩))) rfl (by kernel_rfl) (by kernel_rfl) (by kernel_rfl) (fun _ _ _ h => h) (Or.inl ⟨by rfl, fun w hSw => by obtain ⟨hSb, hSr, hSc⟩ := hSw; clear hSb hSr; go_simp⟩) hH6 ?_
  try simp only [Act.put, List.setIfInBounds_toArray, List.set_cons_zero, List.set_cons_succ]
  refine wpAnyH_done (by kernel_rfl) ?_ _
  refine NoPanic.normal ?_
  have hst : StatsAt w6 w5.heap.size w.heap.size L [z0, z1, z2, z3, z4, z5, z6, z7, z8, z9, z10, z11, z12, z13, z14, z15, z16, z17] := by
    refine ⟨by rw [hw6]; exact heap_alloc_new w5 _, rfl, ?_⟩
    rw [hw6]
    exact hm5.block (Below.heap_alloc _ _ _ (by rw [hs5']; omega))
  have hst' := Lib.hid hst
  have hb6' := Lib.hid hb6
  clear hst hb6 hH hH5 hH6 hb5 hm5 hw6
  go_wp2_with fail
  go_ret
  rw [← hs5']
  exact ⟨rfl, hst'.out, hb6'.out⟩
end Go.Proofs.YtlemadbmlnjhpaaGreatDoor
