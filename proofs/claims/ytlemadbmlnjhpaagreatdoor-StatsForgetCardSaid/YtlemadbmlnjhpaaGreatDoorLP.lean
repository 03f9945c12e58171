/- The model's text: what it is; it is the statistics' text, without the names of the days before a day. -/
import Derived.Test.YtlemadbmlnjhpaaGreatDoorLJ
namespace Go.Proofs.YtlemadbmlnjhpaaGreatDoor
open Go Go.RowKit Go.Proofs
set_option linter.unusedSimpArgs false
set_option linter.unusedVariables false

/-- how many strings at the head of a list are less than s -/
def atS (s : ByteArray) : List ByteArray → Nat
  | [] => 0
  | x :: r => if cbK x s < 0 then atS s r + 1 else 0
theorem atS_le (s : ByteArray) : ∀ l : List ByteArray, atS s l ≤ l.length
  | [] => Nat.le_refl _
  | x :: r => by
    have := atS_le s r
    unfold atS
    split
    · simp; omega
    · simp
def insS (l : List ByteArray) (s : ByteArray) : List ByteArray := if l[atS s l]? = some s then l else l.take (atS s l) ++ [s] ++ l.drop (atS s l)
def insR (s : ByteArray) : List ByteArray → List ByteArray
  | [] => [s]
  | x :: r => if cbK x s < 0 then x :: insR s r else if x = s then x :: r else s :: x :: r
theorem insS_eq (s : ByteArray) : ∀ l : List ByteArray, insS l s = insR s l
  | [] => by simp [insS, insR, atS]
  | x :: r => by
    have ih := insS_eq s r
    unfold insS atS insR
    by_cases h : cbK x s < 0
    · rw [if_pos h, if_pos h, ← ih]
      unfold insS
      rw [List.getElem?_cons_succ]
      split
      · rfl
      · simp
    · rw [if_neg h, if_neg h]
      simp only [List.getElem?_cons_zero, Option.some.injEq, List.take_zero, List.drop_zero, List.nil_append]
      split
      · rfl
      · rfl
theorem insS_len (l : List ByteArray) (s : ByteArray) : (insS l s).length ≤ l.length + 1 := by
  unfold insS
  split
  · omega
  · simp; omega
theorem mem_insR {s x : ByteArray} : ∀ {l : List ByteArray}, x ∈ insR s l ↔ x = s ∨ x ∈ l
  | [] => by simp [insR]
  | y :: r => by
    unfold insR
    split
    · rw [List.mem_cons, mem_insR, List.mem_cons]
      constructor
      · rintro (h | h | h)
        · exact .inr (.inl h)
        · exact .inl h
        · exact .inr (.inr h)
      · rintro (h | h | h)
        · exact .inr (.inl h)
        · exact .inl h
        · exact .inr (.inr h)
    · split
      · rename_i h; subst h; simp
      · simp
def SortedS (l : List ByteArray) : Prop := l.Pairwise fun x y => cbK x y < 0
theorem insR_sorted {s : ByteArray} : ∀ {l : List ByteArray}, SortedS l → SortedS (insR s l)
  | [], _ => by simp [insR, SortedS]
  | y :: r, h => by
    have h1 := List.pairwise_cons.1 h
    unfold insR
    split
    · rename_i hlt
      refine List.pairwise_cons.2 ⟨fun z hz => ?_, insR_sorted h1.2⟩
      rcases mem_insR.1 hz with rfl | hz
      · exact hlt
      · exact h1.1 z hz
    · rename_i hnl
      split
      · exact h
      · rename_i hne
        have hsy : cbK s y < 0 := (totC_bytes.anti s y).2 (by
          have h0 : cbK y s ≠ 0 := fun h0 => hne ((totC_bytes.eq y s).1 h0)
          omega)
        refine List.pairwise_cons.2 ⟨fun z hz => ?_, h⟩
        rcases List.mem_cons.1 hz with rfl | hz
        · exact hsy
        · exact totC_bytes.trans _ _ _ hsy (h1.1 z hz)
theorem foldIns_facts : ∀ (xs out : List ByteArray), SortedS out → SortedS (xs.foldl insS out) ∧ ∀ x, x ∈ xs.foldl insS out ↔ x ∈ xs ∨ x ∈ out
  | [], out, h => ⟨h, fun x => by simp⟩
  | y :: r, out, h => by
    have ih := foldIns_facts r (insS out y) (by rw [insS_eq]; exact insR_sorted h)
    refine ⟨ih.1, fun x => ?_⟩
    rw [List.foldl_cons, ih.2, insS_eq, mem_insR, List.mem_cons]
    constructor
    · rintro (h | h | h)
      · exact .inl (.inr h)
      · exact .inl (.inl h)
      · exact .inr h
    · rintro ((h | h) | h)
      · exact .inr (.inl h)
      · exact .inl h
      · exact .inr (.inr h)
theorem foldIns_len : ∀ (xs out : List ByteArray), (xs.foldl insS out).length ≤ out.length + xs.length
  | [], out => by simp
  | y :: r, out => by
    have ih := foldIns_len r (insS out y)
    have := insS_len out y
    rw [List.foldl_cons, List.length_cons]; omega
def allStep (kind a b : Int) (out : List ByteArray) (e : Ev) : List ByteArray := if a ≤ e.mi / 1440 ∧ e.mi / 1440 ≤ b then (e.names kind).foldl insS out else out
/-- the model's names of a kind from a day to a day -/
def allM (es : List Ev) (kind a b : Int) : List ByteArray := es.foldl (allStep kind a b) []
theorem allM_snoc (es : List Ev) (e : Ev) (kind a b : Int) : allM (es ++ [e]) kind a b = allStep kind a b (allM es kind a b) e := by simp [allM]
theorem allFold_facts (kind a b : Int) : ∀ (es : List Ev) (out : List ByteArray), SortedS out → SortedS (es.foldl (allStep kind a b) out) ∧
    ∀ x, x ∈ es.foldl (allStep kind a b) out ↔ (∃ e ∈ es, (a ≤ e.mi / 1440 ∧ e.mi / 1440 ≤ b) ∧ x ∈ e.names kind) ∨ x ∈ out
  | [], out, h => ⟨h, fun x => by simp⟩
  | e :: r, out, h => by
    have h1 : SortedS (allStep kind a b out e) ∧ ∀ x, x ∈ allStep kind a b out e ↔ ((a ≤ e.mi / 1440 ∧ e.mi / 1440 ≤ b) ∧ x ∈ e.names kind) ∨ x ∈ out := by
      unfold allStep
      split
      · rename_i hc
        have := foldIns_facts (e.names kind) out h
        exact ⟨this.1, fun x => by rw [this.2]; simp [hc]⟩
      · rename_i hc
        exact ⟨h, fun x => by simp [hc]⟩
    have ih := allFold_facts kind a b r _ h1.1
    refine ⟨ih.1, fun x => ?_⟩
    rw [List.foldl_cons, ih.2, h1.2]
    constructor
    · rintro (⟨f, hf, hx⟩ | hx | hx)
      · exact .inl ⟨f, List.mem_cons_of_mem _ hf, hx⟩
      · exact .inl ⟨e, List.mem_cons_self, hx⟩
      · exact .inr hx
    · rintro (⟨f, hf, hx⟩ | hx)
      · rcases List.mem_cons.1 hf with rfl | hf
        · exact .inr (.inl hx)
        · exact .inl ⟨f, hf, hx⟩
      · exact .inr (.inr hx)
theorem allM_sorted (es : List Ev) (kind a b : Int) : SortedS (allM es kind a b) := (allFold_facts kind a b es [] List.Pairwise.nil).1
theorem mem_allM {es : List Ev} {kind a b : Int} {x : ByteArray} : x ∈ allM es kind a b ↔ ∃ e ∈ es, (a ≤ e.mi / 1440 ∧ e.mi / 1440 ≤ b) ∧ x ∈ e.names kind := by
  have := (allFold_facts kind a b es [] List.Pairwise.nil).2 x
  unfold allM
  rw [this]; simp

/-- the model's line -/
def lineM (s : List UInt8) (c : Cnt) : List UInt8 := s ++ [32] ++ Lib.itoa c.1 ++ [32] ++ Lib.itoa c.2 ++ [10]
def namesM (es : List Ev) (d kind : Int) : List UInt8 := (allM es kind d d).flatMap fun n => lineM (kindWord kind ++ [32] ++ n.data.toList) (ofM es kind n d d)
def dayM (es : List Ev) (before d : Int) : List UInt8 := lineM (wDay ++ [32] ++ Lib.itoa d) (ofM es 0 ByteArray.empty d d) ++ (if before ≤ d then namesM es d 1 ++ namesM es d 2 ++ namesM es d 3 else [])
/-- the model's text -/
def textM (es : List Ev) (before : Int) : List UInt8 := (daysM es).flatMap (dayM es before) ++ linesZ (szM es) 18

/-! ### the keys in order are those of the model's text -/
def keysN (es : List Ev) (d kind : Int) : List Key := (allM es kind d d).map fun n => (d, kind, n)
def keysD (es : List Ev) (before d : Int) : List Key := (d, 0, ByteArray.empty) :: (if before ≤ d then keysN es d 1 ++ keysN es d 2 ++ keysN es d 3 else [])
def keysM (es : List Ev) (before : Int) : List Key := (daysM es).flatMap (keysD es before)
theorem cmpK_second {x y : Key} (h0 : x.1 = y.1) (h : x.2.1 < y.2.1) : cmpK x y < 0 := by
  unfold cmpK orL Lib.compareInt
  simp [h0, orL, h]
theorem cmpK_third {x y : Key} (h0 : x.1 = y.1) (h1 : x.2.1 = y.2.1) (h : cbK x.2.2 y.2.2 < 0) : cmpK x y < 0 := by
  unfold cbK at h
  unfold cmpK orL Lib.compareInt
  simp only [h0, h1, orL]
  simp
  split
  · rename_i hq; omega
  · exact h
theorem keysN_mem {es : List Ev} {d kind : Int} {x : Key} (h : x ∈ keysN es d kind) : x.1 = d ∧ x.2.1 = kind ∧ x.2.2 ∈ allM es kind d d := by
  obtain ⟨n, hn, rfl⟩ := List.mem_map.1 h
  exact ⟨rfl, rfl, hn⟩
theorem keysN_sorted (es : List Ev) (d kind : Int) : (keysN es d kind).Pairwise fun x y => cmpK x y < 0 := by
  unfold keysN
  rw [List.pairwise_map]
  exact List.Pairwise.imp (R := fun x y => cbK x y < 0) (fun {a b} h => cmpK_third (x := (d, kind, a)) (y := (d, kind, b)) rfl rfl h) (allM_sorted es kind d d)
theorem keysD_first {es : List Ev} {before d : Int} {x : Key} (h : x ∈ keysD es before d) : x.1 = d := by
  unfold keysD at h
  rcases List.mem_cons.1 h with rfl | h
  · rfl
  · split at h
    · simp only [List.mem_append] at h
      rcases h with (h | h) | h <;> exact (keysN_mem h).1
    · simp at h
theorem keysD_sorted (es : List Ev) (before d : Int) : (keysD es before d).Pairwise fun x y => cmpK x y < 0 := by
  unfold keysD
  refine List.pairwise_cons.2 ⟨fun x hx => ?_, ?_⟩
  · split at hx
    · simp only [List.mem_append] at hx
      rcases hx with (h | h) | h <;> (obtain ⟨h1, h2, _⟩ := keysN_mem h; exact cmpK_second h1.symm (by simp only [h2]; decide))
    · simp at hx
  · split
    · refine List.pairwise_append.2 ⟨List.pairwise_append.2 ⟨keysN_sorted _ _ _, keysN_sorted _ _ _, fun x hx y hy => ?_⟩, keysN_sorted _ _ _, fun x hx y hy => ?_⟩
      · obtain ⟨h1, h2, _⟩ := keysN_mem hx
        obtain ⟨h3, h4, _⟩ := keysN_mem hy
        exact cmpK_second (h1.trans h3.symm) (by rw [h2, h4]; decide)
      · obtain ⟨h3, h4, _⟩ := keysN_mem hy
        rcases List.mem_append.1 hx with hx | hx <;> (obtain ⟨h1, h2, _⟩ := keysN_mem hx; exact cmpK_second (h1.trans h3.symm) (by rw [h2, h4]; decide))
    · exact List.Pairwise.nil
theorem keysM_sorted (es : List Ev) (before : Int) : (keysM es before).Pairwise fun x y => cmpK x y < 0 := by
  unfold keysM
  have key : ∀ ds : List Int, ds.Pairwise (· < ·) → (ds.flatMap (keysD es before)).Pairwise fun x y => cmpK x y < 0 := by
    intro ds
    induction ds with
    | nil => intro _; exact List.Pairwise.nil
    | cons d r ih =>
      intro h
      obtain ⟨h1, h2⟩ := List.pairwise_cons.1 h
      rw [List.flatMap_cons]
      refine List.pairwise_append.2 ⟨keysD_sorted _ _ _, ih h2, fun x hx y hy => ?_⟩
      obtain ⟨d', hd', hy'⟩ := List.mem_flatMap.1 hy
      exact cmpK_first (by rw [keysD_first hx, keysD_first hy']; exact h1 d' hd')
  exact key _ (daysM_facts _ es rfl).1
theorem cmpK_irrefl (x : Key) : ¬ cmpK x x < 0 := fun h => by have := (totC_key.eq x x).2 rfl; omega
theorem sortK_self {l : List Key} (h : l.Pairwise fun x y => cmpK x y < 0) : sortK l = l := by
  refine List.Perm.eq_of_pairwise (le := fun x y => (!(ltOf cmpK) y x) = true) ?_ (sortK_pair l) ?_ (sortK_perm l)
  · intro x y _ _ h1 h2
    simp only [Bool.not_eq_true'] at h1 h2
    exact (totC_key.total _ _ h2 h1)
  · refine h.imp fun {x y} hxy => ?_
    have : ¬ cmpK y x < 0 := fun h' => by have := (totC_key.anti x y).1 hxy; omega
    simp [ltOf, this]
theorem nodup_sorted {l : List Key} (h : l.Pairwise fun x y => cmpK x y < 0) : l.Nodup := h.imp fun {x y} hxy he => by subst he; exact cmpK_irrefl _ hxy

/-- what Forget leaves -/
def keepB (before : Int) (k : Key) : Bool := !(k.2.1 != 0 && decide (k.1 < before))
def forgetL (before : Int) (L : List (Key × Cnt)) : List (Key × Cnt) := L.filter fun q => keepB before q.1
theorem keys_forget (before : Int) (L : List (Key × Cnt)) : (forgetL before L).map Prod.fst = (L.map Prod.fst).filter (keepB before) := by
  unfold forgetL; rw [List.filter_map]; rfl
theorem getL_forget (before : Int) (x : Key) (hx : keepB before x = true) : ∀ L : List (Key × Cnt), getL x (forgetL before L) = getL x L
  | [] => rfl
  | q :: r => by
    have ih := getL_forget before x hx r
    unfold forgetL at ih ⊢
    rw [List.filter_cons, getL_cons]
    by_cases hq : keyEq x q.1 = true
    · have e := (keyEq_iff _ _).1 hq
      rw [if_pos hq, if_pos (by rw [← e]; exact hx), getL_cons, if_pos hq]
    · rw [if_neg hq]
      split
      · rw [getL_cons, if_neg hq, ih]
      · exact ih
theorem mem_keysM {es : List Ev} {before : Int} {k : Key} : k ∈ keysM (okEvs es) before ↔ k ∈ (forgetL before (addsL [] es)).map Prod.fst := by
  rw [keys_forget, List.mem_filter, mem_keys_addsL]
  unfold keysM
  simp only [List.mem_flatMap, (daysM_facts _ (okEvs es) rfl).2, List.map_nil, List.not_mem_nil, or_false]
  constructor
  · rintro ⟨d, ⟨e0, he0, hd0⟩, hk⟩
    unfold keysD at hk
    rcases List.mem_cons.1 hk with rfl | hk
    · exact ⟨⟨e0, he0, mem_evkeys.2 (.inl (by rw [hd0]))⟩, by simp [keepB]⟩
    · split at hk
      · rename_i hb
        have key : ∀ kind : Int, k ∈ keysN (okEvs es) d kind → ∃ e ∈ okEvs es, e.mi / 1440 = d ∧ k = (d, kind, k.2.2) ∧ k.2.2 ∈ e.names kind := fun kind h => by
          obtain ⟨h1, h2, h3⟩ := keysN_mem h
          obtain ⟨e, he, hd, hn⟩ := mem_allM.1 h3
          exact ⟨e, he, by omega, by rw [← h1, ← h2], hn⟩
        have hkeep : k.1 = d → keepB before k = true := fun h => by
          have hnl : ¬ k.1 < before := by omega
          simp [keepB, hnl]
        simp only [List.mem_append] at hk
        rcases hk with (h | h) | h
        · obtain ⟨e, he, hd, hk2, hn⟩ := key 1 h
          exact ⟨⟨e, he, mem_evkeys.2 (.inr (.inl ⟨k.2.2, by simpa [Ev.names] using hn, by rw [hd]; exact hk2⟩))⟩, hkeep (by rw [hk2])⟩
        · obtain ⟨e, he, hd, hk2, hn⟩ := key 2 h
          exact ⟨⟨e, he, mem_evkeys.2 (.inr (.inr (.inl ⟨k.2.2, by simpa [Ev.names] using hn, by rw [hd]; exact hk2⟩)))⟩, hkeep (by rw [hk2])⟩
        · obtain ⟨e, he, hd, hk2, hn⟩ := key 3 h
          exact ⟨⟨e, he, mem_evkeys.2 (.inr (.inr (.inr (by
            have : k.2.2 = auText e.au := by simpa [Ev.names] using hn
            rw [hd, ← this]; exact hk2))))⟩, hkeep (by rw [hk2])⟩
      · simp at hk
  · rintro ⟨⟨e, he, hk⟩, hkeep⟩
    refine ⟨e.mi / 1440, ⟨e, he, rfl⟩, ?_⟩
    unfold keysD
    have hkb : k.2.1 ≠ 0 → before ≤ k.1 := fun h => by
      have h1 : (k.2.1 != 0) = true := by simpa using h
      unfold keepB at hkeep
      rw [h1] at hkeep
      simp at hkeep; exact hkeep
    have hin : ∀ kind : Int, ∀ g ∈ e.names kind, ((e.mi / 1440, kind, g) : Key) ∈ keysN (okEvs es) (e.mi / 1440) kind := fun kind g hg =>
      List.mem_map.2 ⟨g, mem_allM.2 ⟨e, he, ⟨Int.le_refl _, Int.le_refl _⟩, hg⟩, rfl⟩
    rcases mem_evkeys.1 hk with rfl | ⟨g, hg, rfl⟩ | ⟨g, hg, rfl⟩ | rfl
    · exact List.mem_cons_self
    · refine List.mem_cons_of_mem _ ?_
      rw [if_pos (hkb (by simp))]
      simp only [List.mem_append]
      exact .inl (.inl (hin 1 g (by simpa [Ev.names] using hg)))
    · refine List.mem_cons_of_mem _ ?_
      rw [if_pos (hkb (by simp))]
      simp only [List.mem_append]
      exact .inl (.inr (hin 2 g (by simpa [Ev.names] using hg)))
    · refine List.mem_cons_of_mem _ ?_
      rw [if_pos (hkb (by simp))]
      simp only [List.mem_append]
      exact .inr (hin 3 _ (by simp [Ev.names]))
theorem sort_forget (es : List Ev) (before : Int) : sortK ((forgetL before (addsL [] es)).map Prod.fst) = keysM (okEvs es) before := by
  have hn : ((forgetL before (addsL [] es)).map Prod.fst).Nodup := by rw [keys_forget]; exact (nodup_adds es).filter _
  have hp := perm_of_nodup hn (nodup_sorted (keysM_sorted (okEvs es) before)) (fun x => mem_keysM.symm)
  rw [sortK_of_perm hp, sortK_self (keysM_sorted _ _)]

/-! ### the counts -/
theorem get_name {es : List Ev} {d kind : Int} {n : ByteArray} (h1 : 1 ≤ kind) (h3 : kind ≤ 3) (hn : ¬ n.toList = []) : getL (d, kind, n) (addsL [] es) = ofM (okEvs es) kind n d d := by
  rw [getL_sum _ _ (nodup_adds es), ← sum_of es kind n d d h1 h3 hn]
  congr 1
  funext k
  unfold keyEq ofPred
  rw [Bool.eq_iff_iff]
  simp only [Bool.and_eq_true, beq_iff_eq, decide_eq_true_eq]
  constructor
  · rintro ⟨e1, e2, e3⟩; exact ⟨e2.symm, e3.symm, by omega, by omega⟩
  · rintro ⟨e1, e2, e3, e4⟩; exact ⟨by omega, e1.symm, e2.symm⟩
theorem get_day (es : List Ev) (d : Int) : getL (d, 0, ByteArray.empty) (addsL [] es) = ofM (okEvs es) 0 ByteArray.empty d d := by
  rw [getL_sum _ _ (nodup_adds es)]
  refine sum_adds _ _ (fun e he c => ?_) es []
  have h1 : (keysOf e.mi e.au e.gs e.ss).countP (fun k => keyEq (d, 0, ByteArray.empty) k) = if e.mi / 1440 = d then 1 else 0 := by
    have e0 : keysOf e.mi e.au e.gs e.ss = [(e.mi / 1440, 0, ByteArray.empty)] ++ (e.gs.map (fun g => (e.mi / 1440, 1, g)) ++ e.ss.map (fun s => (e.mi / 1440, 2, s)) ++ [(e.mi / 1440, 3, auText e.au)]) := by simp [keysOf]
    rw [e0, List.countP_append]
    have h2 : (e.gs.map (fun g => ((e.mi / 1440, 1, g) : Key)) ++ e.ss.map (fun s => (e.mi / 1440, 2, s)) ++ [(e.mi / 1440, 3, auText e.au)]).countP (fun k => keyEq (d, 0, ByteArray.empty) k) = 0 := by
      rw [List.countP_eq_zero]
      intro x hx hq
      have := (keyEq_iff _ _).1 hq
      subst this
      simp only [List.mem_append, List.mem_map, List.mem_singleton] at hx
      rcases hx with (⟨g, _, h⟩ | ⟨g, _, h⟩) | h <;> simp at h
    rw [h2]
    by_cases hd : e.mi / 1440 = d
    · have hq : keyEq (d, 0, ByteArray.empty) (e.mi / 1440, 0, ByteArray.empty) = true := (keyEq_iff _ _).2 (by rw [hd])
      rw [if_pos hd]; simp [hq]
    · have hq : ¬ keyEq (d, 0, ByteArray.empty) (e.mi / 1440, 0, ByteArray.empty) = true := fun h => hd (by have := (keyEq_iff _ _).1 h; exact (congrArg Prod.fst this).symm)
      rw [if_neg hd]; simp [hq]
  have h2 : e.hit 0 ByteArray.empty d d = decide (e.mi / 1440 = d) := by
    unfold Ev.hit
    have e0 : (ByteArray.empty.toList == ([] : List UInt8)) = true := by decide +kernel
    rw [e0, Bool.eq_iff_iff]
    simp
    omega
  rw [h1, ofStep, h2]
  by_cases hd : e.mi / 1440 = d <;> simp [hd]
theorem lineK_eq (k : Key) (c : Cnt) : lineK k c = lineM (kindWord k.2.1 ++ [32] ++ keyName k) c := by
  unfold lineK lineM
  simp [Lib.join, List.intercalate, List.intersperse]
theorem linesK_app (a b : List Key) (L : List (Key × Cnt)) : linesK (a ++ b) L = linesK a L ++ linesK b L := by simp [linesK]
theorem linesN_eq {es : List Ev} {before d kind : Int} (h1 : 1 ≤ kind) (h3 : kind ≤ 3) (hb : before ≤ d) (hne : ∀ n ∈ allM (okEvs es) kind d d, ¬ n.toList = []) :
    linesK (keysN (okEvs es) d kind) (forgetL before (addsL [] es)) = namesM (okEvs es) d kind := by
  unfold linesK keysN namesM
  rw [List.flatMap_map]
  have hcong : ∀ (l : List ByteArray), (∀ n ∈ l, ¬ n.toList = []) → l.flatMap (fun n => lineK (d, kind, n) (getL (d, kind, n) (forgetL before (addsL [] es)))) = l.flatMap (fun n => lineM (kindWord kind ++ [32] ++ n.data.toList) (ofM (okEvs es) kind n d d)) := by
    intro l
    induction l with
    | nil => intro _; rfl
    | cons n r ih =>
      intro h
      rw [List.flatMap_cons, List.flatMap_cons, ih (fun x hx => h x (List.mem_cons_of_mem _ hx)), lineK_eq, getL_forget before _ (by simp [keepB]; omega), get_name h1 h3 (h n List.mem_cons_self)]
      have hkn : keyName (d, kind, n) = n.data.toList := if_neg (by show ¬ kind = 0; omega)
      rw [hkn]
  exact hcong _ hne
/-- the names of accepted events are not empty -/
theorem names_ne {e : Ev} (he : e.err = 0) (hau : e.au.length = 16) {kind : Int} : ∀ n ∈ e.names kind, ¬ n.toList = [] := fun n hn h0 => by
  have hz : n = ByteArray.empty := bytes_beq_true (by rw [h0]; decide +kernel)
  obtain ⟨hg, hs⟩ := evErr_facts he
  unfold Ev.names at hn
  split at hn
  · have := (stFrom_facts _ _ hs).2.2 n hn
    rw [hz] at this
    exact absurd this (by unfold siteErr; simp)
  · split at hn
    · have e1 : n = auText e.au := by simpa using hn
      have h2 : (auText e.au).size = 32 := by rw [auText, mkS_size, hexL_length, hau]
      rw [← e1, hz] at h2
      exact absurd h2 (by decide)
    · have := (glFrom_facts _ _ hg).2.2 n hn
      rw [hz] at this
      exact absurd this (by decide +kernel)
theorem linesD_eq {es : List Ev} (hau : ∀ e ∈ es, e.au.length = 16) (before d : Int) : linesK (keysD (okEvs es) before d) (forgetL before (addsL [] es)) = dayM (okEvs es) before d := by
  have hne : ∀ kind : Int, ∀ n ∈ allM (okEvs es) kind d d, ¬ n.toList = [] := fun kind n hn => by
    obtain ⟨e, he, _, hn⟩ := mem_allM.1 hn
    have hm := List.mem_filter.1 he
    exact names_ne (by simpa using hm.2) (hau e hm.1) n hn
  unfold keysD dayM
  have e1 : linesK ((d, 0, ByteArray.empty) :: (if before ≤ d then keysN (okEvs es) d 1 ++ keysN (okEvs es) d 2 ++ keysN (okEvs es) d 3 else [])) (forgetL before (addsL [] es))
      = lineK (d, 0, ByteArray.empty) (getL (d, 0, ByteArray.empty) (forgetL before (addsL [] es))) ++ linesK (if before ≤ d then keysN (okEvs es) d 1 ++ keysN (okEvs es) d 2 ++ keysN (okEvs es) d 3 else []) (forgetL before (addsL [] es)) := by simp [linesK]
  rw [e1, lineK_eq, getL_forget before _ (by simp [keepB]), get_day]
  have hkn : keyName (d, 0, ByteArray.empty) = Lib.itoa d := rfl
  have hkw : kindWord (d, (0 : Int), ByteArray.empty).2.1 = wDay := rfl
  rw [hkn, hkw]
  congr 1
  split
  · rename_i hb
    rw [linesK_app, linesK_app, linesN_eq (by decide) (by decide) hb (hne 1), linesN_eq (by decide) (by decide) hb (hne 2), linesN_eq (by decide) (by decide) hb (hne 3)]
  · rfl
theorem text_model (es : List Ev) (hau : ∀ e ∈ es, e.au.length = 16) (before : Int) : textK (forgetL before (addsL [] es)) (addsZ noSizes es) = textM (okEvs es) before := by
  unfold textK textM
  rw [sort_forget, addsZ_szM]
  congr 1
  unfold keysM
  have key : ∀ ds : List Int, linesK (ds.flatMap (keysD (okEvs es) before)) (forgetL before (addsL [] es)) = ds.flatMap (dayM (okEvs es) before) := by
    intro ds
    induction ds with
    | nil => rfl
    | cons d r ih => rw [List.flatMap_cons, linesK_app, ih, linesD_eq hau, List.flatMap_cons]
  exact key _
theorem forget_none (es : List Ev) {before : Int} (h : before ≤ 0) : forgetL before (addsL [] es) = addsL [] es := by
  unfold forgetL
  rw [List.filter_eq_self]
  intro q hq
  have h1 : q.1 ∈ (addsL [] es).map Prod.fst := List.mem_map.2 ⟨q, hq, rfl⟩
  rcases mem_keys_addsL.1 h1 with ⟨e, he, hk⟩ | hx
  · have hm := List.mem_filter.1 he
    obtain ⟨⟨h2, h3⟩, _⟩ := Ev.ok (by simpa using hm.2 : e.err = 0)
    have hd : 0 ≤ q.1.1 := by
      have hd0 : 0 ≤ e.mi / 1440 := by omega
      rcases mem_evkeys.1 hk with h | ⟨g, _, h⟩ | ⟨g, _, h⟩ | h <;> (rw [h]; exact hd0)
    have hnl : ¬ q.1.1 < before := by omega
    simp [keepB, hnl]
  · simp at hx
end Go.Proofs.YtlemadbmlnjhpaaGreatDoor
