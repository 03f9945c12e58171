/- The text of statistics: what it is; its length. -/
import Derived.Test.YtlemadbmlnjhpaaGreatDoorLC
import Derived.Lib.ItoaLen
import Derived.Lib.Join
namespace Go.Proofs.YtlemadbmlnjhpaaGreatDoor
open Go Go.RowKit Go.Proofs
set_option linter.unusedSimpArgs false
set_option linter.unusedVariables false

def wDay : List UInt8 := [100, 97, 121]
def wGroup : List UInt8 := [103, 114, 111, 117, 112]
def wSite : List UInt8 := [115, 105, 116, 101]
def wAuthor : List UInt8 := [97, 117, 116, 104, 111, 114]
def wSize : List UInt8 := [115, 105, 122, 101]
def kindWord (k : Int) : List UInt8 := if k = 0 then wDay else if k = 1 then wGroup else if k = 2 then wSite else wAuthor
def keyName (k : Key) : List UInt8 := if k.2.1 = 0 then Lib.itoa k.1 else k.2.2.data.toList
def lineK (k : Key) (c : Cnt) : List UInt8 := Lib.join [kindWord k.2.1, keyName k, Lib.itoa c.1, Lib.itoa c.2] [32] ++ [10]
def lineZ (i : Nat) (n : Int) : List UInt8 := Lib.join [wSize, Lib.itoa i, Lib.itoa n] [32] ++ [10]
def linesK (ks : List Key) (L : List (Key × Cnt)) : List UInt8 := ks.flatMap fun k => lineK k (getL k L)
def lineZ0 (zs : List Int) (i : Nat) : List UInt8 := if 0 < zs.getD i 0 then lineZ i (zs.getD i 0) else []
def linesZ (zs : List Int) (n : Nat) : List UInt8 := (List.range n).flatMap (lineZ0 zs)
def textK (L : List (Key × Cnt)) (zs : List Int) : List UInt8 := linesK (sortK (L.map Prod.fst)) L ++ linesZ zs 18
theorem linesK_snoc (ks : List Key) (x : Key) (L : List (Key × Cnt)) : linesK (ks ++ [x]) L = linesK ks L ++ lineK x (getL x L) := by simp [linesK]
theorem linesZ_succ (zs : List Int) (n : Nat) : linesZ zs (n + 1) = linesZ zs n ++ lineZ0 zs n := by simp [linesZ, List.range_succ]

theorem join4_len (a b c d : List UInt8) : (Lib.join [a, b, c, d] [32]).length = a.length + b.length + c.length + d.length + 3 := by
  simp [Lib.join, List.intercalate, List.intersperse]; omega
theorem join3_len (a b c : List UInt8) : (Lib.join [a, b, c] [32]).length = a.length + b.length + c.length + 2 := by
  simp [Lib.join, List.intercalate, List.intersperse]; omega
theorem kindWord_len (k : Int) : (kindWord k).length ≤ 6 := by
  unfold kindWord; split
  · decide
  · split
    · decide
    · split <;> decide
/-- a key whose kind, day and name are within bounds -/
def KeyOk (k : Key) : Prop := (0 ≤ k.2.1 ∧ k.2.1 ≤ 3) ∧ (0 ≤ k.1 ∧ k.1 ≤ 1000000) ∧ k.2.2.size ≤ 1000
def KeysOk (L : List (Key × Cnt)) : Prop := ∀ q ∈ L, KeyOk q.1
theorem keyName_len {k : Key} (h : KeyOk k) : (keyName k).length ≤ 1000 := by
  obtain ⟨_, ⟨h1, h2⟩, h3⟩ := h
  unfold keyName
  split
  · have := Lib.itoa_length_le k.1 (by omega) (by omega); omega
  · simpa using h3
theorem join_lineK {k : Key} {c : Cnt} (h : KeyOk k) (h1 : 0 ≤ c.1 ∧ c.1 ≤ 1000000000000) (h2 : 0 ≤ c.2 ∧ c.2 ≤ 1000000000000) : (Lib.join [kindWord k.2.1, keyName k, Lib.itoa c.1, Lib.itoa c.2] [32]).length ≤ 1100 := by
  rw [join4_len]
  have a1 := kindWord_len k.2.1
  have a2 := keyName_len h
  have a3 := Lib.itoa_length_le c.1 (by omega) (by omega)
  have a4 := Lib.itoa_length_le c.2 (by omega) (by omega)
  omega
theorem lineK_len {k : Key} {c : Cnt} (h : KeyOk k) (h1 : 0 ≤ c.1 ∧ c.1 ≤ 1000000000000) (h2 : 0 ≤ c.2 ∧ c.2 ≤ 1000000000000) : (lineK k c).length ≤ 1200 := by
  have := join_lineK h h1 h2
  unfold lineK
  rw [List.length_append]
  simp; omega
theorem join_lineZ {i : Nat} {n : Int} (hi : i ≤ 1000) (h1 : 0 ≤ n ∧ n ≤ 1000000000000) : (Lib.join [wSize, Lib.itoa i, Lib.itoa n] [32]).length ≤ 1100 := by
  rw [join3_len]
  have a1 : wSize.length = 4 := rfl
  have a3 := Lib.itoa_length_le i (by omega) (by omega)
  have a4 := Lib.itoa_length_le n (by omega) (by omega)
  omega
theorem lineZ0_len {zs : List Int} {i : Nat} (hi : i ≤ 1000) (h : SzN zs 1000000000) : (lineZ0 zs i).length ≤ 1200 := by
  unfold lineZ0
  split
  · rename_i hp
    have hb : zs.getD i 0 ≤ 1000000000 := by
      rw [List.getD_eq_getElem?_getD] at hp ⊢
      cases hq : zs[i]? with
      | none => simp
      | some z => simpa using (h z (List.mem_of_getElem? hq)).2
    have := join_lineZ (i := i) (n := zs.getD i 0) hi ⟨by omega, by omega⟩
    have h1 : ([10] : List UInt8).length = 1 := rfl
    unfold lineZ
    rw [List.length_append, h1]
    omega
  · simp
theorem linesK_len {L : List (Key × Cnt)} (hL : Bnd L) : ∀ (n : Nat) (ks : List Key), ks.length = n → (∀ k ∈ ks, KeyOk k) → (linesK ks L).length ≤ 1200 * n
  | 0, ks, h, _ => by rw [List.eq_nil_of_length_eq_zero h]; simp [linesK]
  | n + 1, ks, h, ho => by
    obtain ⟨xs, e, rfl⟩ : ∃ xs e, ks = xs ++ [e] := ⟨ks.dropLast, ks.getLast (by intro h0; subst h0; simp at h), (List.dropLast_concat_getLast _).symm⟩
    have ih := linesK_len hL n xs (by simpa using h) (fun x hx => ho x (by simp [hx]))
    obtain ⟨b1, b2, b3, b4⟩ := getL_bound (k := e) hL
    have := lineK_len (ho e (by simp)) ⟨b1, b2⟩ ⟨b3, b4⟩
    rw [linesK_snoc, List.length_append]; omega
theorem linesZ_len {zs : List Int} (h : SzN zs 1000000000) : ∀ (n : Nat), n ≤ 1000 → (linesZ zs n).length ≤ 1200 * n
  | 0, _ => by simp [linesZ]
  | n + 1, hn => by
    have ih := linesZ_len h n (by omega)
    have := lineZ0_len (zs := zs) (i := n) (by omega) h
    rw [linesZ_succ, List.length_append]; omega

/-! ### the keys of accepted events are within bounds -/
theorem keyOk_ev {e : Ev} (he : e.err = 0) (hau : e.au.length = 16) : ∀ k ∈ e.keys, KeyOk k := fun k hk => by
  obtain ⟨⟨h1, h2⟩, _⟩ := Ev.ok he
  obtain ⟨hg, hs⟩ := evErr_facts he
  have hd : 0 ≤ e.mi / 1440 ∧ e.mi / 1440 ≤ 1000000 := by omega
  rcases mem_evkeys.1 hk with rfl | ⟨g, hgm, rfl⟩ | ⟨g, hgm, rfl⟩ | rfl
  · exact ⟨⟨by simp, by simp⟩, hd, by simp⟩
  · refine ⟨⟨by simp, by simp⟩, hd, ?_⟩
    have := (glFrom_facts _ _ hg).2.2 g hgm
    unfold gErr at this
    split at this
    · cases this
    · simp only; omega
  · refine ⟨⟨by simp, by simp⟩, hd, ?_⟩
    have := (stFrom_facts _ _ hs).2.2 g hgm
    unfold siteErr at this
    split at this
    · cases this
    · split at this
      · cases this
      · simp only; omega
  · refine ⟨⟨by simp, by simp⟩, hd, ?_⟩
    have h2 : (auText e.au).size = 32 := by rw [auText, mkS_size, hexL_length, hau]
    simp only [h2]; decide
theorem keysOk_adds {es : List Ev} (hau : ∀ e ∈ es, e.au.length = 16) : KeysOk (addsL [] es) := fun q hq => by
  have h1 : q.1 ∈ (addsL [] es).map Prod.fst := List.mem_map.2 ⟨q, hq, rfl⟩
  rcases mem_keys_addsL.1 h1 with ⟨e, he, hk⟩ | h
  · have hm := List.mem_filter.1 he
    exact keyOk_ev (by simpa using hm.2) (hau e hm.1) _ hk
  · simp at h
end Go.Proofs.YtlemadbmlnjhpaaGreatDoor
