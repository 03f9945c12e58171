/- The model's text: laws for its walk; its first drawn statement. -/
import Derived.Test.YtlemadbmlnjhpaaGreatDoorLS
namespace Go.Proofs.YtlemadbmlnjhpaaGreatDoor
open Go Go.RowKit Go.Proofs
set_option linter.unusedSimpArgs false
set_option linter.unusedVariables false

theorem add_lists (x y : List UInt8) (h : x.length + y.length ≤ 4611686018427387904) (W : World) : (Op.stringOp .add ⟨x.toArray⟩ ⟨y.toArray⟩).run Tryz.prog W = .ok (.string ⟨(x ++ y).toArray⟩) W := by
  rw [run_string_add_sum (P := Tryz.prog) W _ _ (by rw [bsize, bsize]; omega), ByteArray.mk_append_mk]
theorem lineM_len (s : List UInt8) {c : Cnt} (h1 : 0 ≤ c.1 ∧ c.1 ≤ 1000000000000000) (h2 : 0 ≤ c.2 ∧ c.2 ≤ 1000000000000000) : (lineM s c).length ≤ s.length + 60 := by
  have a3 := Lib.itoa_length_le c.1 (by omega) (by omega)
  have a4 := Lib.itoa_length_le c.2 (by omega) (by omega)
  unfold lineM
  simp only [List.length_append, List.length_singleton]
  omega
/-- the names' lines of the kinds before a kind -/
def namesTo (es : List Ev) (d : Int) : Nat → List UInt8
  | 0 => []
  | 1 => []
  | n + 2 => namesTo es d (n + 1) ++ namesM es d (n + 1 : Nat)
theorem namesTo_succ (es : List Ev) (d : Int) {n : Nat} (h : 1 ≤ n) : namesTo es d (n + 1) = namesTo es d n ++ namesM es d n := by
  obtain ⟨m, rfl⟩ : ∃ m, n = m + 1 := ⟨n - 1, by omega⟩
  rfl
theorem namesTo_four (es : List Ev) (d : Int) : namesTo es d 4 = namesM es d 1 ++ namesM es d 2 ++ namesM es d 3 := by simp [namesTo]
theorem dayM_eq (es : List Ev) (before d : Int) (kn : Nat) (h1 : 1 ≤ kn) (h : kn = 4 ∨ d < before) (h2 : before ≤ d ∨ kn = 1) : dayM es before d = lineM (wDay ++ [32] ++ Lib.itoa d) (ofM es 0 ByteArray.empty d d) ++ namesTo es d kn := by
  unfold dayM
  by_cases hb : before ≤ d
  · obtain rfl : kn = 4 := by omega
    rw [if_pos hb, namesTo_four]
  · obtain rfl : kn = 1 := by omega
    rw [if_neg hb]; rfl
abbrev wordsA : Array Value := #[.string { data := #[] }, .string { data := #[103, 114, 111, 117, 112, 32] }, .string { data := #[115, 105, 116, 101, 32] }, .string { data := #[97, 117, 116, 104, 111, 114, 32] }]
/-- between two lines -/
structure TxtAt (w wr : World) (dv : Value) (ds : List Int) (wb : Nat) : Prop where
  bel : Below w.heap.size w wr
  days : SliceInt wr dv ds
  wrd : wr.heap[wb]? = some (.cells wordsA 9 (0, 0))
theorem TxtAt.below {w wr w' : World} {dv : Value} {ds : List Int} {wb : Nat} (h : TxtAt w wr dv ds wb) (hb : Below wr.heap.size wr w') : TxtAt w w' dv ds wb :=
  ⟨h.bel.trans (hb.mono h.bel.size), h.days.below hb, (hb.block _ (Array.getElem?_eq_some_iff.1 h.wrd).1).trans h.wrd⟩
theorem TxtAt.word {w wr : World} {dv : Value} {ds : List Int} {wb kn : Nat} (h : TxtAt w wr dv ds wb) (h1 : 1 ≤ kn) (h3 : kn ≤ 3) : wr.cell? ⟨wb, kn, none⟩ = some (bytesV (kindWord kn ++ [32])) := by
  rw [cell_of_row _ _ _ _ _ _ h.wrd]
  have : kn = 1 ∨ kn = 2 ∨ kn = 3 := by omega
  rcases this with rfl | rfl | rfl <;> rfl
theorem name_size {es : List Ev} (hok : ∀ e ∈ es, e.err = 0) (hau : ∀ e ∈ es, e.au.length = 16) {kind p q : Int} (h1 : 1 ≤ kind) (h3 : kind ≤ 3) : ∀ z ∈ allM es kind p q, z.size ≤ 1000 := fun z hz => by
  obtain ⟨e, he, _, hn⟩ := mem_allM.1 hz
  have hk : ((e.mi / 1440, kind, z) : Key) ∈ e.keys := by
    have : kind = 1 ∨ kind = 2 ∨ kind = 3 := by omega
    rcases this with rfl | rfl | rfl
    · exact mem_evkeys.2 (.inr (.inl ⟨z, by simpa [Ev.names] using hn, rfl⟩))
    · exact mem_evkeys.2 (.inr (.inr (.inl ⟨z, by simpa [Ev.names] using hn, rfl⟩)))
    · have h4 : z = auText e.au := by simpa [Ev.names] using hn
      exact mem_evkeys.2 (.inr (.inr (.inr (by rw [h4]))))
  exact (keyOk_ev (hok e he) (hau e he) _ hk).2.2
theorem bytes_list (z : ByteArray) : ∃ zl : List UInt8, z = ⟨zl.toArray⟩ := ⟨z.data.toList, ByteArray.ext (by simp)⟩
theorem kindWord_len1 (k : Int) : (kindWord k ++ [32]).length ≤ 7 := by
  have := kindWord_len k
  rw [List.length_append, List.length_singleton]; omega
theorem getD_mem_of {α : Type} {l : List α} {n : Nat} {d : α} (h : n < l.length) : l.getD n d ∈ l := by
  rw [List.getD_eq_getElem?_getD, List.getElem?_eq_getElem h, Option.getD_some]; exact List.getElem_mem _
theorem OwnS.below {W W' : World} {base : Nat} {v : Value} {xs : List ByteArray} (h : OwnS W base v xs) (hb : Below W.heap.size W W') : OwnS W' base v xs := ownsRow_block h fun g _ hg => hb.block g hg
theorem OwnS.form {W : World} {base : Nat} {v : Value} {xs : List ByteArray} (h : OwnS W base v xs) : ∃ A c, v = .slice A xs.length c ∧ ∀ j, j < xs.length → ∃ b o, A = some ⟨b, o, none⟩ ∧ W.cell? ⟨b, o + j, none⟩ = some (.string (xs.getD j ByteArray.empty)) := by
  have hxl : (strV xs).length = xs.length := by simp [strV]
  obtain ⟨A, c, rfl, hcell⟩ := own_form (xs := strV xs) (by rw [hxl]; exact h)
  exact ⟨A, c, by rw [hxl], fun j hj => hcell j _ (by simp [strV, List.getD_eq_getElem?_getD, List.getElem?_eq_getElem hj])⟩
theorem lineZ_eq (s : List UInt8) (n : Nat) (z : Int) : s ++ lineZ n z = s ++ [115, 105, 122, 101, 32] ++ Lib.itoa n ++ [32] ++ Lib.itoa z ++ [10] := by
  unfold lineZ wSize
  simp [Lib.join, List.intercalate, List.intersperse]
end Go.Proofs.YtlemadbmlnjhpaaGreatDoor
