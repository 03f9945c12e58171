/- The plain law of StatsAdd: the days, the total, the sum of the sizes. -/
/- The text of statistics: what it is; its length. -/
import Derived.Test.YtlemadbmlnjhpaaGreatDoorH1
import Derived.Test.YtlemadbmlnjhpaaGreatDoorG7
import Derived.Lib.ItoaLen
import Derived.Lib.Join
namespace Go.Proofs.YtlemadbmlnjhpaaGreatDoor
open Go Go.RowKit Go.Proofs
set_option linter.unusedSimpArgs false
set_option linter.unusedVariables false

theorem mem_keys_putL {k x : Key} {c : Cnt} : ∀ {L : List (Key × Cnt)}, x ∈ (putL k c L).map Prod.fst ↔ x = k ∨ x ∈ L.map Prod.fst
  | [] => by simp [putL]
  | p :: r => by
    rw [putL]
    split
    · rename_i h
      have := (keyEq_iff _ _).1 h
      subst this
      simp
    · rw [List.map_cons, List.mem_cons, mem_keys_putL, List.map_cons, List.mem_cons]
      constructor
      · rintro (h | h | h)
        · exact .inr (.inl h)
        · exact .inl h
        · exact .inr (.inr h)
      · rintro (h | h | h)
        · exact .inr (.inl h)
        · exact .inl h
        · exact .inr (.inr h)
theorem nodup_putL {k : Key} {c : Cnt} : ∀ {L : List (Key × Cnt)}, (L.map Prod.fst).Nodup → ((putL k c L).map Prod.fst).Nodup
  | [], _ => by simp [putL]
  | p :: r, h => by
    rw [List.map_cons, List.nodup_cons] at h
    rw [putL]
    split
    · rename_i hq
      have := (keyEq_iff _ _).1 hq
      subst this
      rw [List.map_cons, List.nodup_cons]; exact h
    · rename_i hq
      rw [List.map_cons, List.nodup_cons, mem_keys_putL]
      refine ⟨?_, nodup_putL h.2⟩
      rintro (h1 | h1)
      · exact hq ((keyEq_iff _ _).2 h1.symm)
      · exact h.1 h1
theorem length_putL {k : Key} {c : Cnt} : ∀ {L : List (Key × Cnt)}, (putL k c L).length ≤ L.length + 1
  | [] => by simp [putL]
  | p :: r => by
    rw [putL]
    split
    · simp
    · have := length_putL (k := k) (c := c) (L := r); simp; omega
theorem mem_keys_bumps {x : Key} {b : Int} : ∀ {ks : List Key} {L : List (Key × Cnt)}, x ∈ (bumps L ks b).map Prod.fst ↔ x ∈ ks ∨ x ∈ L.map Prod.fst
  | [], L => by simp [bumps]
  | k :: r, L => by
    have ih := mem_keys_bumps (x := x) (b := b) (ks := r) (L := bump L k b)
    rw [show bumps L (k :: r) b = bumps (bump L k b) r b from rfl, ih, bump, mem_keys_putL, List.mem_cons]
    constructor
    · rintro (h | h | h)
      · exact .inl (.inr h)
      · exact .inl (.inl h)
      · exact .inr h
    · rintro ((h | h) | h)
      · exact .inr (.inl h)
      · exact .inl h
      · exact .inr (.inr h)
theorem nodup_bumps {b : Int} : ∀ {ks : List Key} {L : List (Key × Cnt)}, (L.map Prod.fst).Nodup → ((bumps L ks b).map Prod.fst).Nodup
  | [], L, h => h
  | k :: r, L, h => by rw [show bumps L (k :: r) b = bumps (bump L k b) r b from rfl]; exact nodup_bumps (nodup_putL h)
theorem length_bumps {b : Int} : ∀ {ks : List Key} {L : List (Key × Cnt)}, (bumps L ks b).length ≤ L.length + ks.length
  | [], L => Nat.le_refl _
  | k :: r, L => by
    have ih := length_bumps (b := b) (ks := r) (L := bump L k b)
    have h2 : (bump L k b).length ≤ L.length + 1 := length_putL
    rw [show bumps L (k :: r) b = bumps (bump L k b) r b from rfl]
    simp; omega
def Ev.keys (e : Ev) : List Key := keysOf e.mi e.au e.gs e.ss
theorem okEvs_cons (e : Ev) (r : List Ev) : okEvs (e :: r) = if e.err = 0 then e :: okEvs r else okEvs r := by
  unfold okEvs
  rw [List.filter_cons]
  by_cases h : e.err = 0 <;> simp [h]
theorem mem_keys_addsL {x : Key} : ∀ {es : List Ev} {L : List (Key × Cnt)}, x ∈ (addsL L es).map Prod.fst ↔ (∃ e ∈ okEvs es, x ∈ e.keys) ∨ x ∈ L.map Prod.fst
  | [], L => by simp [addsL, okEvs]
  | e :: r, L => by
    have ih := mem_keys_addsL (x := x) (es := r) (L := addL L e.mi e.au e.gs e.ss e.b)
    rw [show addsL L (e :: r) = addsL (addL L e.mi e.au e.gs e.ss e.b) r from rfl, ih, okEvs_cons, addL]
    by_cases he : e.err = 0
    · have he' : evErr e.mi e.gs e.ss e.b = 0 := he
      rw [if_pos he, if_pos he', mem_keys_bumps]
      simp only [List.mem_cons, exists_eq_or_imp]
      constructor
      · rintro (h | h | h)
        · exact .inl (.inr h)
        · exact .inl (.inl h)
        · exact .inr h
      · rintro ((h | h) | h)
        · exact .inr (.inl h)
        · exact .inl h
        · exact .inr (.inr h)
    · have he' : ¬ evErr e.mi e.gs e.ss e.b = 0 := he
      rw [if_neg he, if_neg he']
theorem nodup_addsL : ∀ {es : List Ev} {L : List (Key × Cnt)}, (L.map Prod.fst).Nodup → ((addsL L es).map Prod.fst).Nodup
  | [], L, h => h
  | e :: r, L, h => by
    rw [show addsL L (e :: r) = addsL (addL L e.mi e.au e.gs e.ss e.b) r from rfl]
    refine nodup_addsL ?_
    unfold addL
    split
    · exact nodup_bumps h
    · exact h
theorem length_addsL : ∀ {es : List Ev} {L : List (Key × Cnt)}, (addsL L es).length ≤ L.length + 100 * es.length
  | [], L => by simp [addsL]
  | e :: r, L => by
    have ih := length_addsL (es := r) (L := addL L e.mi e.au e.gs e.ss e.b)
    rw [show addsL L (e :: r) = addsL (addL L e.mi e.au e.gs e.ss e.b) r from rfl]
    have h2 : (addL L e.mi e.au e.gs e.ss e.b).length ≤ L.length + 100 := by
      unfold addL
      split
      · rename_i he
        have h3 := length_bumps (b := e.b) (ks := keysOf e.mi e.au e.gs e.ss) (L := L)
        have h4 := keysOf_length e.mi e.au e.gs e.ss
        obtain ⟨_, ⟨h5, _⟩, h6, _⟩ := evErr_zero he
        omega
      · omega
    simp; omega

/-! ### days -/
theorem atD_sorted (d : Int) : ∀ (n : Nat) (l : List Int), l.length = n → l.Pairwise (· < ·) → (∀ y ∈ l.take (atD d l), y < d) ∧ (∀ y ∈ l.drop (atD d l), d ≤ y)
  | 0, l, h, _ => by rw [List.eq_nil_of_length_eq_zero h]; simp
  | n + 1, l, h, hp => by
    obtain ⟨xs, x, rfl⟩ : ∃ xs e, l = xs ++ [e] := ⟨l.dropLast, l.getLast (by intro h0; subst h0; simp at h), (List.dropLast_concat_getLast _).symm⟩
    have hp' := List.pairwise_append.1 hp
    have ih := atD_sorted d n xs (by simpa using h) hp'.1
    have hle := atD_le d _ xs rfl
    rw [atD_snoc]
    split
    · rename_i hx
      rw [List.take_of_length_le (by simp), List.drop_of_length_le (by simp)]
      refine ⟨fun y hy => ?_, by simp⟩
      rcases List.mem_append.1 hy with hy | hy
      · have := hp'.2.2 y hy x (by simp); omega
      · simp at hy; omega
    · rename_i hx
      rw [List.take_append_of_le_length hle, List.drop_append_of_le_length hle]
      refine ⟨ih.1, fun y hy => ?_⟩
      rcases List.mem_append.1 hy with hy | hy
      · exact ih.2 y hy
      · simp at hy; omega
theorem mem_insD {l : List Int} {d x : Int} : x ∈ insD l d ↔ x = d ∨ x ∈ l := by
  unfold insD
  split
  · rename_i h
    rw [List.any_eq_true] at h
    obtain ⟨y, hy, he⟩ := h
    have : y = d := by simpa using he
    subst this
    constructor
    · exact .inr
    · rintro (rfl | h)
      · exact hy
      · exact h
  · have e := List.take_append_drop (atD d l) l
    constructor
    · intro h
      simp only [List.mem_append, List.mem_singleton] at h
      rcases h with (h | h) | h
      · exact .inr (List.mem_of_mem_take h)
      · exact .inl h
      · exact .inr (List.mem_of_mem_drop h)
    · rintro (rfl | h)
      · simp
      · rw [← e] at h
        simp only [List.mem_append, List.mem_singleton] at h ⊢
        rcases h with h | h
        · exact .inl (.inl h)
        · exact .inr h
theorem insD_sorted {l : List Int} {d : Int} (h : l.Pairwise (· < ·)) : (insD l d).Pairwise (· < ·) := by
  unfold insD
  split
  · exact h
  · rename_i hn
    have hno : ∀ y ∈ l, y ≠ d := fun y hy he => hn (by rw [List.any_eq_true]; exact ⟨y, hy, by simpa using he⟩)
    obtain ⟨h1, h2⟩ := atD_sorted d _ l rfl h
    have e := List.take_append_drop (atD d l) l
    rw [← e] at h
    obtain ⟨p1, p2, p3⟩ := List.pairwise_append.1 h
    rw [List.append_assoc, List.pairwise_append]
    refine ⟨p1, ?_, fun a ha b hb => ?_⟩
    · rw [List.singleton_append, List.pairwise_cons]
      refine ⟨fun y hy => ?_, p2⟩
      have := h2 y hy
      have := hno y (List.mem_of_mem_drop hy)
      omega
    · simp only [List.singleton_append, List.mem_cons] at hb
      rcases hb with rfl | hb
      · exact h1 a ha
      · exact p3 a ha b hb
theorem daysM_facts : ∀ (n : Nat) (es : List Ev), es.length = n → (daysM es).Pairwise (· < ·) ∧ ∀ x, x ∈ daysM es ↔ ∃ e ∈ es, e.mi / 1440 = x
  | 0, l, h => by rw [List.eq_nil_of_length_eq_zero h]; simp [daysM]
  | n + 1, l, h => by
    obtain ⟨xs, e, rfl⟩ : ∃ xs e, l = xs ++ [e] := ⟨l.dropLast, l.getLast (by intro h0; subst h0; simp at h), (List.dropLast_concat_getLast _).symm⟩
    obtain ⟨ih1, ih2⟩ := daysM_facts n xs (by simpa using h)
    rw [daysM_snoc]
    refine ⟨insD_sorted ih1, fun x => ?_⟩
    rw [mem_insD, ih2]
    simp only [List.mem_append, List.mem_singleton]
    constructor
    · rintro (rfl | ⟨y, hy, rfl⟩)
      · exact ⟨e, .inr rfl, rfl⟩
      · exact ⟨y, .inl hy, rfl⟩
    · rintro ⟨y, hy | rfl, rfl⟩
      · exact .inr ⟨y, hy, rfl⟩
      · exact .inl rfl
theorem sorted_ext {a b : List Int} (ha : a.Pairwise (· < ·)) (hb : b.Pairwise (· < ·)) (h : ∀ x, x ∈ a ↔ x ∈ b) : a = b := by
  have na : a.Nodup := ha.imp (fun h => by omega)
  have nb : b.Nodup := hb.imp (fun h => by omega)
  refine List.Perm.eq_of_pairwise (le := fun x y => x < y) ?_ ha hb ((List.perm_ext_iff_of_nodup na nb).2 h)
  intro x y _ _ h1 h2; omega

theorem mem_evkeys {e : Ev} {x : Key} : x ∈ e.keys ↔ x = (e.mi / 1440, 0, ByteArray.empty) ∨ (∃ g ∈ e.gs, x = (e.mi / 1440, 1, g)) ∨ (∃ s ∈ e.ss, x = (e.mi / 1440, 2, s)) ∨ x = (e.mi / 1440, 3, auText e.au) := by
  unfold Ev.keys keysOf
  simp only [List.mem_append, List.mem_cons, List.mem_map, List.mem_singleton, List.mem_nil_iff, or_false]
  constructor
  · rintro (((h | ⟨g, hg, h⟩) | ⟨g, hg, h⟩) | h)
    · exact .inl h
    · exact .inr (.inl ⟨g, hg, h.symm⟩)
    · exact .inr (.inr (.inl ⟨g, hg, h.symm⟩))
    · exact .inr (.inr (.inr h))
  · rintro (h | ⟨g, hg, h⟩ | ⟨g, hg, h⟩ | h)
    · exact .inl (.inl (.inl h))
    · exact .inl (.inl (.inr ⟨g, hg, h.symm⟩))
    · exact .inl (.inr ⟨g, hg, h.symm⟩)
    · exact .inr h
theorem key_whole {es : List Ev} {x : Key} (h : x ∈ (addsL [] es).map Prod.fst) (h0 : x.2.1 = 0) : x.2.2 = ByteArray.empty ∧ ∃ e ∈ okEvs es, e.mi / 1440 = x.1 := by
  rcases mem_keys_addsL.1 h with ⟨e, he, hk⟩ | h
  · rcases mem_evkeys.1 hk with rfl | ⟨g, _, rfl⟩ | ⟨g, _, rfl⟩ | rfl
    · exact ⟨rfl, e, he, rfl⟩
    · cases h0
    · cases h0
    · cases h0
  · simp at h
theorem cmpK_first {x y : Key} (h : x.1 < y.1) : cmpK x y < 0 := by
  unfold cmpK orL Lib.compareInt
  simp [h]
theorem days_eq (es : List Ev) : dayL (sortK ((addsL [] es).map Prod.fst)) = daysM (okEvs es) := by
  obtain ⟨d1, d2⟩ := daysM_facts _ (okEvs es) rfl
  have hp := sortK_pair ((addsL [] es).map Prod.fst)
  have hperm := sortK_perm ((addsL [] es).map Prod.fst)
  have hnd : (sortK ((addsL [] es).map Prod.fst)).Nodup := hperm.nodup_iff.2 (nodup_addsL List.nodup_nil)
  refine sorted_ext ?_ d1 fun x => ?_
  · unfold dayL
    rw [List.pairwise_map, List.pairwise_filter]
    refine (hp.and hnd).imp_of_mem fun {a b} ha hb ⟨h1, h2⟩ h3 h4 => ?_
    have a0 : a.2.1 = 0 := by simpa using h3
    have b0 : b.2.1 = 0 := by simpa using h4
    have ea := (key_whole (hperm.mem_iff.1 ha) a0).1
    have eb := (key_whole (hperm.mem_iff.1 hb) b0).1
    rcases Int.lt_trichotomy a.1 b.1 with h | h | h
    · exact h
    · exact absurd (Prod.ext h (Prod.ext (a0.trans b0.symm) (ea.trans eb.symm))) h2
    · have hc := cmpK_first h
      simp [ltOf, hc] at h1
  · rw [d2]
    unfold dayL
    simp only [List.mem_map, List.mem_filter, beq_iff_eq]
    constructor
    · rintro ⟨k, ⟨hk, h0⟩, rfl⟩
      exact (key_whole (hperm.mem_iff.1 hk) h0).2
    · rintro ⟨e, he, rfl⟩
      exact ⟨(e.mi / 1440, 0, ByteArray.empty), ⟨hperm.mem_iff.2 (mem_keys_addsL.2 (.inl ⟨e, he, mem_evkeys.2 (.inl rfl)⟩)), rfl⟩, rfl⟩

/-! ### the total, the sum of the sizes -/
theorem hit_all {e : Ev} (he : e.err = 0) (kind : Int) : e.hit kind ByteArray.empty 0 80000 = true := by
  obtain ⟨⟨h1, h2⟩, _⟩ := Ev.ok he
  unfold Ev.hit
  have e0 : (ByteArray.empty.toList == ([] : List UInt8)) = true := by decide +kernel
  rw [e0]
  simp
  omega
theorem total_eq (es : List Ev) : sumBy isWhole (addsL [] es) = ofM (okEvs es) 0 ByteArray.empty 0 80000 := by
  refine sum_adds _ _ (fun e he c => ?_) es []
  have h1 : (keysOf e.mi e.au e.gs e.ss).countP isWhole = 1 := by
    have e0 : keysOf e.mi e.au e.gs e.ss = [(e.mi / 1440, 0, ByteArray.empty)] ++ (e.gs.map (fun g => (e.mi / 1440, 1, g)) ++ e.ss.map (fun s => (e.mi / 1440, 2, s)) ++ [(e.mi / 1440, 3, auText e.au)]) := by simp [keysOf]
    rw [e0, List.countP_append]
    have h2 : (e.gs.map (fun g => ((e.mi / 1440, 1, g) : Key)) ++ e.ss.map (fun s => (e.mi / 1440, 2, s)) ++ [(e.mi / 1440, 3, auText e.au)]).countP isWhole = 0 := by
      rw [List.countP_eq_zero]
      intro x hx
      simp only [List.mem_append, List.mem_map, List.mem_singleton] at hx
      rcases hx with (⟨g, _, rfl⟩ | ⟨g, _, rfl⟩) | rfl <;> simp [isWhole]
    rw [h2]; simp [isWhole]
  rw [h1, ofStep, hit_all he, if_pos rfl]
  simp
theorem ofM_count : ∀ (n : Nat) (es : List Ev), es.length = n → (∀ e ∈ es, e.err = 0) → (ofM es 0 ByteArray.empty 0 80000).1 = n
  | 0, l, h, _ => by rw [List.eq_nil_of_length_eq_zero h]; rfl
  | n + 1, l, h, ho => by
    obtain ⟨xs, e, rfl⟩ : ∃ xs e, l = xs ++ [e] := ⟨l.dropLast, l.getLast (by intro h0; subst h0; simp at h), (List.dropLast_concat_getLast _).symm⟩
    have ih := ofM_count n xs (by simpa using h) (fun x hx => ho x (by simp [hx]))
    rw [ofM_snoc, hit_all (ho e (by simp)), if_pos rfl]
    simp only [ih]
    omega
theorem sum_incZ (zs : List Int) (b : Int) (h : Lib.bitLen b.toNat < zs.length) : (incZ zs b).sum = zs.sum + 1 := by
  unfold incZ
  have key : ∀ (zs : List Int) (n : Nat), n < zs.length → (zs.set n (zs.getD n 0 + 1)).sum = zs.sum + 1 := by
    intro zs
    induction zs with
    | nil => intro n h; simp at h
    | cons z r ih =>
      intro n h
      cases n with
      | zero => simp; omega
      | succ n =>
        have := ih n (by simpa using h)
        simp only [List.set_cons_succ, List.sum_cons, List.getD_cons_succ]
        omega
  exact key zs _ h
theorem sum_szM : ∀ (n : Nat) (es : List Ev), es.length = n → (∀ e ∈ es, e.err = 0) → (szM es).sum = n
  | 0, l, h, _ => by rw [List.eq_nil_of_length_eq_zero h]; rfl
  | n + 1, l, h, ho => by
    obtain ⟨xs, e, rfl⟩ : ∃ xs e, l = xs ++ [e] := ⟨l.dropLast, l.getLast (by intro h0; subst h0; simp at h), (List.dropLast_concat_getLast _).symm⟩
    have ih := sum_szM n xs (by simpa using h) (fun x hx => ho x (by simp [hx]))
    obtain ⟨_, hb1, hb2⟩ := Ev.ok (ho e (by simp))
    rw [szM_snoc, sum_incZ _ _ (by rw [szM_len]; have := bitLen_le e.b.toNat (by omega); omega), ih]
    omega
end Go.Proofs.YtlemadbmlnjhpaaGreatDoor
namespace Go.Proofs.YtlemadbmlnjhpaaGreatDoor
open Go Go.RowKit Go.Proofs
set_option linter.unusedSimpArgs false
set_option linter.unusedVariables false

def wDay : List UInt8 := [100, 97, 121]
def wGroup : List UInt8 := [103, 114, 111, 117, 112]
def wSite : List UInt8 := [115, 105, 116, 101]
def wAuthor : List UInt8 := [97, 117, 116, 104, 111, 114]
def wSize : List UInt8 := [115, 105, 122, 101]
def kindWord (k : Int) : List UInt8 := if k = 0 then wDay else if k = 1 then wGroup else if k = 2 then wSite else wAuthor
def keyName (k : Key) : List UInt8 := if k.2.1 = 0 then Lib.itoa k.1 else k.2.2.data.toList
def lineK (k : Key) (c : Cnt) : List UInt8 := Lib.join [kindWord k.2.1, keyName k, Lib.itoa c.1, Lib.itoa c.2] [32] ++ [10]
def lineZ (i : Nat) (n : Int) : List UInt8 := Lib.join [wSize, Lib.itoa i, Lib.itoa n] [32] ++ [10]
def linesK (ks : List Key) (L : List (Key × Cnt)) : List UInt8 := ks.flatMap fun k => lineK k (getL k L)
def lineZ0 (zs : List Int) (i : Nat) : List UInt8 := if 0 < zs.getD i 0 then lineZ i (zs.getD i 0) else []
def linesZ (zs : List Int) (n : Nat) : List UInt8 := (List.range n).flatMap (lineZ0 zs)
def textK (L : List (Key × Cnt)) (zs : List Int) : List UInt8 := linesK (sortK (L.map Prod.fst)) L ++ linesZ zs 18
theorem linesK_snoc (ks : List Key) (x : Key) (L : List (Key × Cnt)) : linesK (ks ++ [x]) L = linesK ks L ++ lineK x (getL x L) := by simp [linesK]
theorem linesZ_succ (zs : List Int) (n : Nat) : linesZ zs (n + 1) = linesZ zs n ++ lineZ0 zs n := by simp [linesZ, List.range_succ]

theorem join4_len (a b c d : List UInt8) : (Lib.join [a, b, c, d] [32]).length = a.length + b.length + c.length + d.length + 3 := by
  simp [Lib.join, List.intercalate, List.intersperse]; omega
theorem join3_len (a b c : List UInt8) : (Lib.join [a, b, c] [32]).length = a.length + b.length + c.length + 2 := by
  simp [Lib.join, List.intercalate, List.intersperse]; omega
theorem kindWord_len (k : Int) : (kindWord k).length ≤ 6 := by
  unfold kindWord; split
  · decide
  · split
    · decide
    · split <;> decide
/-- a key whose kind, day and name are within bounds -/
def KeyOk (k : Key) : Prop := (0 ≤ k.2.1 ∧ k.2.1 ≤ 3) ∧ (0 ≤ k.1 ∧ k.1 ≤ 1000000) ∧ k.2.2.size ≤ 1000
def KeysOk (L : List (Key × Cnt)) : Prop := ∀ q ∈ L, KeyOk q.1
theorem keyName_len {k : Key} (h : KeyOk k) : (keyName k).length ≤ 1000 := by
  obtain ⟨_, ⟨h1, h2⟩, h3⟩ := h
  unfold keyName
  split
  · have := Lib.itoa_length_le k.1 (by omega) (by omega); omega
  · simpa using h3
theorem join_lineK {k : Key} {c : Cnt} (h : KeyOk k) (h1 : 0 ≤ c.1 ∧ c.1 ≤ 1000000000000) (h2 : 0 ≤ c.2 ∧ c.2 ≤ 1000000000000) : (Lib.join [kindWord k.2.1, keyName k, Lib.itoa c.1, Lib.itoa c.2] [32]).length ≤ 1100 := by
  rw [join4_len]
  have a1 := kindWord_len k.2.1
  have a2 := keyName_len h
  have a3 := Lib.itoa_length_le c.1 (by omega) (by omega)
  have a4 := Lib.itoa_length_le c.2 (by omega) (by omega)
  omega
theorem lineK_len {k : Key} {c : Cnt} (h : KeyOk k) (h1 : 0 ≤ c.1 ∧ c.1 ≤ 1000000000000) (h2 : 0 ≤ c.2 ∧ c.2 ≤ 1000000000000) : (lineK k c).length ≤ 1200 := by
  have := join_lineK h h1 h2
  unfold lineK
  rw [List.length_append]
  simp; omega
theorem join_lineZ {i : Nat} {n : Int} (hi : i ≤ 1000) (h1 : 0 ≤ n ∧ n ≤ 1000000000000) : (Lib.join [wSize, Lib.itoa i, Lib.itoa n] [32]).length ≤ 1100 := by
  rw [join3_len]
  have a1 : wSize.length = 4 := rfl
  have a3 := Lib.itoa_length_le i (by omega) (by omega)
  have a4 := Lib.itoa_length_le n (by omega) (by omega)
  omega
theorem lineZ0_len {zs : List Int} {i : Nat} (hi : i ≤ 1000) (h : SzN zs 1000000000) : (lineZ0 zs i).length ≤ 1200 := by
  unfold lineZ0
  split
  · rename_i hp
    have hb : zs.getD i 0 ≤ 1000000000 := by
      rw [List.getD_eq_getElem?_getD] at hp ⊢
      cases hq : zs[i]? with
      | none => simp
      | some z => simpa using (h z (List.mem_of_getElem? hq)).2
    have := join_lineZ (i := i) (n := zs.getD i 0) hi ⟨by omega, by omega⟩
    have h1 : ([10] : List UInt8).length = 1 := rfl
    unfold lineZ
    rw [List.length_append, h1]
    omega
  · simp
theorem linesK_len {L : List (Key × Cnt)} (hL : Bnd L) : ∀ (n : Nat) (ks : List Key), ks.length = n → (∀ k ∈ ks, KeyOk k) → (linesK ks L).length ≤ 1200 * n
  | 0, ks, h, _ => by rw [List.eq_nil_of_length_eq_zero h]; simp [linesK]
  | n + 1, ks, h, ho => by
    obtain ⟨xs, e, rfl⟩ : ∃ xs e, ks = xs ++ [e] := ⟨ks.dropLast, ks.getLast (by intro h0; subst h0; simp at h), (List.dropLast_concat_getLast _).symm⟩
    have ih := linesK_len hL n xs (by simpa using h) (fun x hx => ho x (by simp [hx]))
    obtain ⟨b1, b2, b3, b4⟩ := getL_bound (k := e) hL
    have := lineK_len (ho e (by simp)) ⟨b1, b2⟩ ⟨b3, b4⟩
    rw [linesK_snoc, List.length_append]; omega
theorem linesZ_len {zs : List Int} (h : SzN zs 1000000000) : ∀ (n : Nat), n ≤ 1000 → (linesZ zs n).length ≤ 1200 * n
  | 0, _ => by simp [linesZ]
  | n + 1, hn => by
    have ih := linesZ_len h n (by omega)
    have := lineZ0_len (zs := zs) (i := n) (by omega) h
    rw [linesZ_succ, List.length_append]; omega

/-! ### the keys of accepted events are within bounds -/
theorem keyOk_ev {e : Ev} (he : e.err = 0) (hau : e.au.length = 16) : ∀ k ∈ e.keys, KeyOk k := fun k hk => by
  obtain ⟨⟨h1, h2⟩, _⟩ := Ev.ok he
  obtain ⟨hg, hs⟩ := evErr_facts he
  have hd : 0 ≤ e.mi / 1440 ∧ e.mi / 1440 ≤ 1000000 := by omega
  rcases mem_evkeys.1 hk with rfl | ⟨g, hgm, rfl⟩ | ⟨g, hgm, rfl⟩ | rfl
  · exact ⟨⟨by simp, by simp⟩, hd, by simp⟩
  · refine ⟨⟨by simp, by simp⟩, hd, ?_⟩
    have := (glFrom_facts _ _ hg).2.2 g hgm
    unfold gErr at this
    split at this
    · cases this
    · simp only; omega
  · refine ⟨⟨by simp, by simp⟩, hd, ?_⟩
    have := (stFrom_facts _ _ hs).2.2 g hgm
    unfold siteErr at this
    split at this
    · cases this
    · split at this
      · cases this
      · simp only; omega
  · refine ⟨⟨by simp, by simp⟩, hd, ?_⟩
    have h2 : (auText e.au).size = 32 := by rw [auText, mkS_size, hexL_length, hau]
    simp only [h2]; decide
theorem keysOk_adds {es : List Ev} (hau : ∀ e ∈ es, e.au.length = 16) : KeysOk (addsL [] es) := fun q hq => by
  have h1 : q.1 ∈ (addsL [] es).map Prod.fst := List.mem_map.2 ⟨q, hq, rfl⟩
  rcases mem_keys_addsL.1 h1 with ⟨e, he, hk⟩ | h
  · have hm := List.mem_filter.1 he
    exact keyOk_ev (by simpa using hm.2) (hau e hm.1) _ hk
  · simp at h
end Go.Proofs.YtlemadbmlnjhpaaGreatDoor
