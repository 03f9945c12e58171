/- Events in another order: the same entries, sizes and text. -/
import Derived.Test.YtlemadbmlnjhpaaGreatDoorLF
import Derived.Test.YtlemadbmlnjhpaaGreatDoorLG
namespace Go.Proofs.YtlemadbmlnjhpaaGreatDoor
open Go Go.RowKit Go.Proofs
set_option linter.unusedSimpArgs false
set_option linter.unusedVariables false

theorem sum_perm {α : Type} (f : α → Int) {a b : List α} (h : a.Perm b) : (a.map f).sum = (b.map f).sum := by
  induction h with
  | nil => rfl
  | cons x _ ih => simp [ih]
  | swap x y l => simp; omega
  | trans _ _ h1 h2 => exact h1.trans h2
def evN (p : Key → Bool) (e : Ev) : Int := if e.err = 0 then ((e.keys.countP p : Nat) : Int) else 0
def evB (p : Key → Bool) (e : Ev) : Int := if e.err = 0 then ((e.keys.countP p : Nat) : Int) * e.b else 0
theorem sum_adds_eq (p : Key → Bool) : ∀ (es : List Ev) (L : List (Key × Cnt)), (sumBy p (addsL L es)).1 = (sumBy p L).1 + (es.map (evN p)).sum ∧ (sumBy p (addsL L es)).2 = (sumBy p L).2 + (es.map (evB p)).sum
  | [], L => by simp [addsL]
  | e :: r, L => by
    have ih := sum_adds_eq p r (addL L e.mi e.au e.gs e.ss e.b)
    have e1 : (sumBy p (addL L e.mi e.au e.gs e.ss e.b)).1 = (sumBy p L).1 + evN p e ∧ (sumBy p (addL L e.mi e.au e.gs e.ss e.b)).2 = (sumBy p L).2 + evB p e := by
      unfold addL evN evB
      by_cases h : e.err = 0
      · have h' : evErr e.mi e.gs e.ss e.b = 0 := h
        rw [if_pos h', if_pos h, if_pos h]
        exact sumBy_bumps p e.b _ L
      · have h' : ¬ evErr e.mi e.gs e.ss e.b = 0 := h
        rw [if_neg h', if_neg h, if_neg h]; simp
    show (sumBy p (addsL (addL L e.mi e.au e.gs e.ss e.b) r)).1 = _ ∧ (sumBy p (addsL (addL L e.mi e.au e.gs e.ss e.b) r)).2 = _
    rw [ih.1, ih.2, e1.1, e1.2]
    simp only [List.map_cons, List.sum_cons]
    omega
theorem sum_adds_perm (p : Key → Bool) {es fs : List Ev} (h : es.Perm fs) : sumBy p (addsL [] es) = sumBy p (addsL [] fs) := by
  have h1 := sum_adds_eq p es []
  have h2 := sum_adds_eq p fs []
  exact Prod.ext (by rw [h1.1, h2.1, sum_perm _ h]) (by rw [h1.2, h2.2, sum_perm _ h])
theorem sumBy_absent (x : Key) : ∀ (L : List (Key × Cnt)), x ∉ L.map Prod.fst → sumBy (fun k => keyEq x k) L = (0, 0)
  | [], _ => rfl
  | q :: r, h => by
    have hq : ¬ keyEq x q.1 = true := fun he => h (by rw [(keyEq_iff _ _).1 he]; simp)
    unfold sumBy
    rw [if_neg hq]
    exact sumBy_absent x r (fun hm => h (by simp only [List.map_cons, List.mem_cons]; exact Or.inr hm))
theorem getL_sum (x : Key) : ∀ (L : List (Key × Cnt)), (L.map Prod.fst).Nodup → getL x L = sumBy (fun k => keyEq x k) L
  | [], _ => rfl
  | q :: r, h => by
    rw [List.map_cons, List.nodup_cons] at h
    rw [getL_cons, sumBy]
    by_cases hq : keyEq x q.1 = true
    · rw [if_pos hq, if_pos hq, sumBy_absent x r (by rw [(keyEq_iff _ _).1 hq]; exact h.1)]; simp
    · rw [if_neg hq, if_neg hq]; exact getL_sum x r h.2
theorem nodup_adds (es : List Ev) : ((addsL [] es).map Prod.fst).Nodup := nodup_addsL (by simp)
theorem getL_perm {es fs : List Ev} (h : es.Perm fs) (x : Key) : getL x (addsL [] es) = getL x (addsL [] fs) := by
  rw [getL_sum x _ (nodup_adds es), getL_sum x _ (nodup_adds fs), sum_adds_perm _ h]
theorem perm_of_nodup {α : Type} [DecidableEq α] {a b : List α} (ha : a.Nodup) (hb : b.Nodup) (h : ∀ x, x ∈ a ↔ x ∈ b) : a.Perm b := by
  rw [List.perm_iff_count]
  intro x
  rw [ha.count, hb.count]
  simp only [h x]
theorem keys_perm {es fs : List Ev} (h : es.Perm fs) : ((addsL [] es).map Prod.fst).Perm ((addsL [] fs).map Prod.fst) :=
  perm_of_nodup (nodup_adds es) (nodup_adds fs) fun x => by
    rw [mem_keys_addsL, mem_keys_addsL]
    have hp : ∀ e, e ∈ okEvs es ↔ e ∈ okEvs fs := fun e => by unfold okEvs; simp only [List.mem_filter, h.mem_iff]
    simp only [hp]
theorem findL_of_mem (x : Key) : ∀ (L : List (Key × Cnt)) (i : Nat), x ∈ L.map Prod.fst → ∃ j c, findL x L i = some (j, c)
  | [], _, h => by simp at h
  | q :: r, i, h => by
    unfold findL
    by_cases hq : keyEq x q.1 = true
    · exact ⟨i, q.2, if_pos hq⟩
    · rw [if_neg hq]
      refine findL_of_mem x r (i + 1) ?_
      rw [List.map_cons, List.mem_cons] at h
      exact h.resolve_left fun he => hq ((keyEq_iff _ _).2 he)
theorem getL_mem {L : List (Key × Cnt)} (h : (L.map Prod.fst).Nodup) {q : Key × Cnt} (hq : q ∈ L) : getL q.1 L = q.2 := by
  induction L with
  | nil => simp at hq
  | cons p r ih =>
    rw [List.map_cons, List.nodup_cons] at h
    rw [getL_cons]
    rcases List.mem_cons.1 hq with rfl | hm
    · rw [if_pos ((keyEq_iff _ _).2 rfl)]
    · rw [if_neg (fun he => h.1 (by rw [← (keyEq_iff _ _).1 he]; exact List.mem_map.2 ⟨q, hm, rfl⟩))]
      exact ih h.2 hm
/-- the same keys, the same counts -/
structure SameK (L M : List (Key × Cnt)) : Prop where
  nl : (L.map Prod.fst).Nodup
  nm : (M.map Prod.fst).Nodup
  keys : (L.map Prod.fst).Perm (M.map Prod.fst)
  get : ∀ x, getL x L = getL x M
theorem SameK.symm {L M : List (Key × Cnt)} (h : SameK L M) : SameK M L := ⟨h.nm, h.nl, h.keys.symm, fun x => (h.get x).symm⟩
theorem SameK.same {L M : List (Key × Cnt)} (h : SameK L M) : SameL L M := by
  refine ⟨by simpa using h.keys.length_eq, fun q hq => ?_⟩
  obtain ⟨j, c, hf⟩ := findL_of_mem q.1 M 0 (h.keys.mem_iff.1 (List.mem_map.2 ⟨q, hq, rfl⟩))
  have hg : getL q.1 M = c := by unfold getL; rw [hf]; rfl
  rw [← h.get, getL_mem h.nl hq] at hg
  exact ⟨j, by rw [hf, hg]⟩
theorem SameK.text {L M : List (Key × Cnt)} (h : SameK L M) (zs : List Int) : textK L zs = textK M zs := by
  unfold textK linesK
  rw [sortK_of_perm h.keys]
  simp only [h.get]
theorem sameK_perm {es fs : List Ev} (h : es.Perm fs) : SameK (addsL [] es) (addsL [] fs) := ⟨nodup_adds _, nodup_adds _, keys_perm h, getL_perm h⟩
theorem incZ_len (zs : List Int) (b : Int) : (incZ zs b).length = zs.length := by simp [incZ]
theorem incZ_get (zs : List Int) (b : Int) (i : Nat) : (incZ zs b)[i]? = if Lib.bitLen b.toNat = i then (if i < zs.length then some (zs.getD i 0 + 1) else none) else zs[i]? := by
  unfold incZ
  rw [List.getElem?_set]
  split
  · rename_i h; subst h; rfl
  · rfl
theorem incZ_getD (zs : List Int) (b : Int) (i : Nat) (h : i < zs.length) : (incZ zs b).getD i 0 = zs.getD i 0 + (if Lib.bitLen b.toNat = i then 1 else 0) := by
  rw [List.getD_eq_getElem?_getD, incZ_get]
  split
  · rfl
  · rw [List.getD_eq_getElem?_getD]; simp
theorem incZ_comm (zs : List Int) (a b : Int) : incZ (incZ zs a) b = incZ (incZ zs b) a := by
  refine List.ext_getElem? fun i => ?_
  by_cases hi : i < zs.length
  · have h1 : i < (incZ (incZ zs a) b).length := by rw [incZ_len, incZ_len]; exact hi
    have h2 : i < (incZ (incZ zs b) a).length := by rw [incZ_len, incZ_len]; exact hi
    have e1 := incZ_getD (incZ zs a) b i (by rw [incZ_len]; exact hi)
    have e2 := incZ_getD (incZ zs b) a i (by rw [incZ_len]; exact hi)
    rw [incZ_getD zs a i hi] at e1
    rw [incZ_getD zs b i hi] at e2
    rw [List.getD_eq_getElem?_getD, List.getElem?_eq_getElem h1, Option.getD_some] at e1
    rw [List.getD_eq_getElem?_getD, List.getElem?_eq_getElem h2, Option.getD_some] at e2
    rw [List.getElem?_eq_getElem h1, List.getElem?_eq_getElem h2, e1, e2]
    exact congrArg some (by omega)
  · rw [List.getElem?_eq_none (by rw [incZ_len, incZ_len]; omega), List.getElem?_eq_none (by rw [incZ_len, incZ_len]; omega)]
theorem szM_perm {es fs : List Ev} (h : es.Perm fs) : szM es = szM fs :=
  h.foldl_eq' (fun x _ y _ z => incZ_comm z x.b y.b) noSizes
theorem addsZ_perm {es fs : List Ev} (h : es.Perm fs) : addsZ noSizes es = addsZ noSizes fs := by
  rw [addsZ_szM, addsZ_szM]
  exact szM_perm (h.filter _)

/-! ### the turned list -/
theorem turn_perm {α : Type} (es : List α) (t : Nat) (d : α) : ((List.range es.length).map fun i => es.getD ((es.length - 1 - i + t) % es.length) d).Perm es := by
  obtain ⟨n, hn⟩ : ∃ n, n = es.length := ⟨_, rfl⟩
  rw [← hn]
  have h0 : es = (List.range n).map fun i => es.getD i d := by
    refine List.ext_getElem? fun i => ?_
    rw [List.getElem?_map]
    by_cases hi : i < n
    · rw [List.getElem?_range hi, List.getElem?_eq_getElem (by omega), Option.map_some, List.getD_eq_getElem?_getD, List.getElem?_eq_getElem (by omega)]; rfl
    · rw [List.getElem?_eq_none (by omega), List.getElem?_eq_none (by simpa using hi)]; rfl
  have key : ((List.range n).map fun i => (n - 1 - i + t) % n).Perm (List.range n) := by
    by_cases hz : n = 0
    · subst hz; exact List.Perm.refl _
    have hpos : 0 < n := by omega
    obtain ⟨r, hr⟩ : ∃ r, r = t % n := ⟨_, rfl⟩
    have hrn : r < n := by rw [hr]; exact Nat.mod_lt _ hpos
    have e1 : ((List.range n).map fun i => (n - 1 - i + t) % n) = ((List.range n).map fun j => (j + r) % n).reverse := by
      refine List.ext_getElem? fun i => ?_
      by_cases hi : i < n
      · rw [List.getElem?_reverse (by simpa using hi), List.getElem?_map, List.getElem?_map, List.length_map, List.length_range, List.getElem?_range hi, List.getElem?_range (by omega), Option.map_some, Option.map_some, hr, Nat.add_mod_mod]
      · rw [List.getElem?_eq_none (by simpa using hi), List.getElem?_eq_none (by simpa using hi)]
    have e2 : ((List.range n).map fun j => (j + r) % n) = (List.range (n - r)).map (fun j => r + j) ++ List.range r := by
      refine List.ext_getElem? fun i => ?_
      rw [List.getElem?_append, List.length_map, List.length_range, List.getElem?_map]
      by_cases hi : i < n
      · rw [List.getElem?_range hi]
        by_cases h2 : i < n - r
        · rw [if_pos h2, List.getElem?_map, List.getElem?_range h2, Option.map_some, Option.map_some, Nat.mod_eq_of_lt (by omega)]
          exact congrArg some (by omega)
        · rw [if_neg h2, List.getElem?_range (by omega), Option.map_some, Nat.mod_eq_sub_mod (by omega), Nat.mod_eq_of_lt (by omega)]
          exact congrArg some (by omega)
      · rw [List.getElem?_eq_none (by simpa using hi), if_neg (by omega), List.getElem?_eq_none (by simp; omega)]; rfl
    rw [e1, e2]
    refine (List.reverse_perm _).trans (List.perm_append_comm.trans ?_)
    rw [← List.range_add, show r + (n - r) = n by omega]
  have := key.map (fun i => es.getD i d)
  rw [List.map_map, ← h0] at this
  exact this
end Go.Proofs.YtlemadbmlnjhpaaGreatDoor
