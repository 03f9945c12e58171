/- The contracts of the functions on groups' names: groupname's component, Check and list, and the reference's Component, Parts, Check and CheckList. -/
import Derived.Test.YtlemadbmlnjhpaaGreatDoorK2
import Derived.Test.YtlemadbmlnjhpaaGreatDoorShelf
import Derived.Deep.DeepFit
namespace Go.Proofs.YtlemadbmlnjhpaaGreatDoor
open Go Go.RowKit Go.Proofs
set_option linter.unusedSimpArgs false
set_option linter.unusedVariables false

theorem permclos_at (w : World) : PredAt Tryz.prog 150 #[] encR (fun r => !permN r) w := fun W r _ => by
  unfold FnGives
  show Calls Tryz.prog 150 #[.int .i32 (r : Int)] W _
  go_enter Tryz.func150, Tryz.ntmps150
  go_wp2_with (go_at_call 151; refine (permitted_any _ _).mono ?_; rintro e w' ⟨rfl, rfl⟩)
  go_ret
  exact ⟨rfl, 0, rfl⟩

theorem permclos_enters : ∀ (args : Array Value) (w : World), Sem.run Tryz.prog (callFunc 150 args) w = Result.ok (Next.enter 150 args) w :=
  enters_of Tryz.func150 (by kernel_rfl) rfl

def someBad (s : ByteArray) : Bool := decide (0 ≤ Lib.idxFunc (fun r => !permN r) true s)
theorem contains_perm (s : ByteArray) (w : World) :
    Calls Tryz.prog 149 #[.string s, .func (.func 150) #[] #[]] w fun e w' => e = .returned (.bool (someBad s)) ∧ Below w.heap.size w w' :=
  Tryz.strings_ContainsFunc _ _ permclos_enters _ _ _ (permclos_at w)

theorem get_bt (s : ByteArray) {k : Nat} (h : k < s.size) : (s.get! k).toNat = bt s k := by
  rw [bt, dif_pos h]
  congr 1
  exact getElem!_pos s.data k h
theorem decode_ascii (s : ByteArray) {k : Nat} (h : k < s.size) (hb : bt s k < 128) : Utf8.decode s k = (bt s k, 1) := by
  have e := get_bt s h
  unfold Utf8.decode
  simp only [Nat.add_zero, e]
  rw [if_pos (by omega)]
theorem decode_high (s : ByteArray) {k : Nat} (h : k < s.size) (hb : 128 ≤ bt s k) : 128 ≤ (Utf8.decode s k).1 := by
  have e := get_bt s h
  unfold Utf8.decode
  simp only [Nat.add_zero, e]
  rw [if_neg (by omega)]
  repeat' split
  all_goals first
    | (simp [Utf8.runeError]; done)
    | (simp only [Bool.and_eq_true, decide_eq_true_eq, ge_iff_le] at *; omega)
theorem permN_high {n : Nat} (h : 128 ≤ n) : permN n = false := by rw [permN_not]; omega
theorem idxFrom_bad (s : ByteArray) : ∀ (f pos : Nat), s.size ≤ pos + f → (0 ≤ Lib.idxFuncFrom (fun r => !permN r) true s f pos ↔ ∃ k, pos ≤ k ∧ k < s.size ∧ permN (bt s k) = false)
  | 0, pos, h => by
    unfold Lib.idxFuncFrom
    exact ⟨fun h' => by omega, fun ⟨k, h1, h2, _⟩ => by omega⟩
  | f + 1, pos, h => by
    unfold Lib.idxFuncFrom
    by_cases hp : pos < s.size
    · rw [if_pos hp]
      by_cases ha : bt s pos < 128
      · rw [decode_ascii s hp ha]
        by_cases hb : permN (bt s pos) = true
        · rw [if_neg (by simp [hb])]
          rw [idxFrom_bad s f (pos + 1) (by omega)]
          exact ⟨fun ⟨k, h1, h2, h3⟩ => ⟨k, by omega, h2, h3⟩, fun ⟨k, h1, h2, h3⟩ => ⟨k, by
            have : k ≠ pos := fun e => by subst e; rw [hb] at h3; cases h3
            omega, h2, h3⟩⟩
        · rw [if_pos (by simpa using hb)]
          exact ⟨fun _ => ⟨pos, Nat.le_refl _, hp, by simpa using hb⟩, fun _ => by omega⟩
      · have hd := decode_high s hp (by omega)
        rw [if_pos (by rw [permN_high hd]; rfl)]
        exact ⟨fun _ => ⟨pos, Nat.le_refl _, hp, permN_high (by omega)⟩, fun _ => by omega⟩
    · rw [if_neg hp]
      exact ⟨fun h' => by omega, fun ⟨k, h1, h2, _⟩ => by omega⟩
theorem someBad_eq (s : ByteArray) : someBad s = !(List.range s.size).all fun k => permN (bt s k) := by
  unfold someBad Lib.idxFunc
  rw [Bool.eq_iff_iff, decide_eq_true_eq, idxFrom_bad s s.size 0 (by omega)]
  simp

theorem compB_eq (s : ByteArray) : compB s = (decide (0 < s.size) && decide (s.size ≤ 20) && lowN (bt s 0) && !someBad s) := by
  rw [someBad_eq, Bool.not_not]; rfl

set_option maxHeartbeats 400000 in
theorem component_any (s : ByteArray) (w : World) (hs : s.size ≤ 9223372036854775807) :
    Calls Tryz.prog 120 #[.string s] w fun e w' => e = .returned (.bool (compB s)) ∧ Below w.heap.size w w' := by
  by_cases h0 : s.size = 0
  · have he := empty_true h0
    clear hs
    go_enter Tryz.func120, Tryz.ntmps120
    go_wp2_with fail
    go_ret
    exact ⟨ret_bool (by simp [compB, h0]), Below.refl _ _⟩
  · have he := empty_false h0
    have hpos : 0 < s.size := by omega
    go_enter Tryz.func120, Tryz.ntmps120
    go_wp2_with (go_at_call 149; refine (contains_perm _ _).mono ?_; rintro e w' ⟨rfl, hb⟩)
    all_goals
      go_ret
      refine ⟨ret_bool ?_, by first | assumption | exact Below.refl _ _⟩
      rw [compB_eq]
      try simp only [bt_at] at *
      first
        | rw [decide_eq_true hpos, decide_eq_true (by omega : s.size ≤ 20), (lowN_iff _).2 (by omega)]; rfl
        | rw [(lowN_not _).2 (by omega)]; simp
        | rw [decide_eq_false (by omega : ¬ s.size ≤ 20)]; simp

/-- the value v is a slice of strings that reads as zs -/
def SliceStr (w : World) (v : Value) (zs : List ByteArray) : Prop :=
  (∃ A c, v = .slice A 0 c ∧ zs = []) ∨ ∃ b o c, v = .slice (some ⟨b, o, none⟩) zs.length c ∧ zs.length ≤ c ∧ (c ≤ 9223372036854775807 ∧ zs.length ≤ 9223372036854775807) ∧ b < w.heap.size ∧ (∀ j, j < zs.length → w.cell? ⟨b, o + j, none⟩ = some (.string (zs.getD j ByteArray.empty))) ∧ ∀ z ∈ zs, z.size ≤ 9223372036854775807
theorem SliceStr.below {w w' : World} {v : Value} {zs : List ByteArray} (h : SliceStr w v zs) (hb : Below w.heap.size w w') : SliceStr w' v zs := by
  rcases h with h | ⟨b, o, c, h1, h2, h3, h4, h5, h6⟩
  · exact .inl h
  · exact .inr ⟨b, o, c, h1, h2, h3, by have := hb.size; omega, fun j hj => (hb.cell (p := ⟨b, o + j, none⟩) h4).trans (h5 j hj), h6⟩
theorem getD_mem {zs : List ByteArray} {j : Nat} (h : j < zs.length) : zs.getD j ByteArray.empty ∈ zs := by
  rw [List.getD_eq_getElem?_getD, List.getElem?_eq_getElem h]; exact List.getElem_mem h

theorem checkclos_enters : ∀ (args : Array Value) (w : World), Sem.run Tryz.prog (callFunc 119 args) w = Result.ok (Next.enter 119 args) w :=
  enters_of Tryz.func119 (by kernel_rfl) rfl
theorem checkclos_any (s : ByteArray) (w : World) (hs : s.size ≤ 9223372036854775807) :
    Calls Tryz.prog 119 #[.string s] w fun e w' => e = .returned (.bool (!compB s)) ∧ Below w.heap.size w w' := by
  go_enter Tryz.func119, Tryz.ntmps119
  go_wp2_with (go_at_call 120; refine (component_any _ _ hs).mono ?_; rintro e w' ⟨rfl, hb⟩)
  go_ret
  exact ⟨rfl, by assumption⟩

def SomeInt (p : Int → Prop) (w : World) (e : Ending) (w' : World) : Prop := (∃ r : Int, e = .returned (.int .i64 r) ∧ p r) ∧ Below w.heap.size w w'

set_option maxHeartbeats 800000 in
theorem indexfunc_some (b o c : Nat) (zs : List ByteArray) (w : World) (hn : zs.length ≤ 9223372036854775807) (hb : b < w.heap.size) (hc : ∀ j, j < zs.length → w.cell? ⟨b, o + j, none⟩ = some (.string (zs.getD j ByteArray.empty))) (hz : ∀ z ∈ zs, z.size ≤ 9223372036854775807) :
    Calls Tryz.prog 148 #[.slice (some ⟨b, o, none⟩) zs.length c, .func (.func 119) #[] #[]] w (SomeInt (fun r => 0 ≤ r ↔ ∃ z ∈ zs, compB z = false) w) := by
  have hc' := Lib.hid hc
  have hz' := Lib.hid hz
  clear hc hz
  have ee := checkclos_enters
  go_enter Tryz.func148, Tryz.ntmps148
  go_wp2_with fail
  go_loopw [8] (fun c wr => ∃ k : Nat, Upto zs.length k (fun j => compB (zs.getD j ByteArray.empty) = true) ∧ c = .int .i64 k ∧ Below w.heap.size w wr) (fun c _ => zs.length - (intOf c).toNat)
  case atStart => exact ⟨0, Upto.zero _ _, rfl, Below.refl _ _⟩
  case round =>
    obtain ⟨k, hup, rfl, hbel⟩ := hrel
    have hup' := Lib.hid hup
    have hbel' := Lib.hid hbel
    clear hup hbel
    by_cases hk : k < zs.length
    · obtain ⟨z, hzk⟩ : ∃ z, z = zs.getD k ByteArray.empty := ⟨_, rfl⟩
      have hcell : wr.cell? ⟨b, o + k, none⟩ = some (.string z) := by rw [hzk]; exact (hbel'.out.cell (p := ⟨b, o + k, none⟩) hb).trans (hc'.out k hk)
      have hsz : z.size ≤ 9223372036854775807 := by rw [hzk]; exact hz'.out _ (getD_mem hk)
      have hzk' := Lib.hid hzk
      clear hzk
      go_wp2_with (go_at_call 119; refine (checkclos_any _ _ (by omega)).mono ?_; rintro e w' ⟨rfl, hb1⟩)
      · have hf : compB z = false := by simpa using (by assumption : (!compB z) = true)
        go_ret
        exact ⟨⟨k, rfl, fun _ => ⟨z, by rw [hzk'.out]; exact getD_mem hk, hf⟩, fun _ => by omega⟩, hbel'.out.trans ((by assumption : Below wr.heap.size wr _).mono hbel'.out.size)⟩
      · have hf : compB z = true := by simpa using (by assumption : (!compB z) = false)
        exact ⟨⟨k + 1, hup'.out.next hk (by rw [← hzk'.out]; exact hf), by go_num, hbel'.out.trans ((by assumption : Below wr.heap.size wr _).mono hbel'.out.size)⟩, by simp [intOf]; omega⟩
    · go_wp2_with fail
      go_ret
      refine ⟨⟨-1, rfl, fun h => by omega, fun ⟨z, hz, hf⟩ => ?_⟩, hbel'.out⟩
      obtain ⟨j, hj, rfl⟩ := List.mem_iff_getElem.1 hz
      have : compB (zs.getD j ByteArray.empty) = true := hup'.out.2 j (by omega)
      rw [List.getD_eq_getElem?_getD, List.getElem?_eq_getElem hj] at this
      rw [Option.getD_some, hf] at this
      cases this

theorem indexfunc_any (v : Value) (zs : List ByteArray) (w : World) (hv : SliceStr w v zs) :
    Calls Tryz.prog 148 #[v, .func (.func 119) #[] #[]] w (SomeInt (fun r => 0 ≤ r ↔ ∃ z ∈ zs, compB z = false) w) := by
  rcases hv with ⟨A, c, rfl, rfl⟩ | ⟨b, o, c, rfl, h1, h2, h3, h4, h5⟩
  · go_enter Tryz.func148, Tryz.ntmps148
    go_wp2_with fail
    refine wp_loop_once ?_
    go_wp2_with fail
    go_ret
    exact ⟨⟨-1, rfl, fun h => by omega, fun ⟨z, hz, _⟩ => by cases hz⟩, Below.refl _ _⟩
  · exact indexfunc_some b o c zs w (by omega) h3 h4 h5

theorem containsfunc_any (v : Value) (zs : List ByteArray) (w : World) (hv : SliceStr w v zs) :
    Calls Tryz.prog 118 #[v, .func (.func 119) #[] #[]] w fun e w' => e = .returned (.bool (zs.any fun z => !compB z)) ∧ Below w.heap.size w w' := by
  go_enter Tryz.func118, Tryz.ntmps118
  go_wp2_with (go_at_call 148; refine (indexfunc_any _ _ _ hv).mono ?_; rintro e w' ⟨⟨r, rfl, hr⟩, hb⟩; have hr' := Lib.hid hr; clear hr)
  go_ret
  refine ⟨ret_bool ?_, by assumption⟩
  rw [Bool.eq_iff_iff, decide_eq_true_eq, hr'.out, List.any_eq_true]
  simp

theorem genSplit_dot (c : UInt8) (s : ByteArray) (w : World) (hs : s.size < 4294967281) :
    Calls Tryz.prog 93 #[.string s, .string ⟨#[c]⟩, .int .i64 0, .int .i64 (-1)] w fun e w' =>
      e = .returned (.slice (some ⟨w.heap.size, 0, none⟩) (partsB c s).length (partsB c s).length) ∧ w' = w.alloc (.cells ((partsB c s).map Value.string).toArray 9) := by
  have hN : ((Lib.countB s ⟨#[c]⟩ + 1 : Nat) : Int) = min (if (-1 : Int) < 0 then (Lib.countB s ⟨#[c]⟩ : Int) + 1 else -1) ((s.size : Int) + 1) := by
    have := Lib.countB_le ⟨#[c]⟩ (Nat.le_refl 1) s.size s (Nat.le_refl _)
    rw [if_pos (by decide)]; omega
  have h := Any.strings_genSplit_core Tryz.lays221 (by kernel_rfl) s ⟨#[c]⟩ 0 (-1) (Lib.countB s ⟨#[c]⟩ + 1) w hs (Nat.le_refl 1) (Nat.zero_le _)
    (fun x cc _ => (Tryz.strings_Index_one x c _).mono fun e w' ⟨he, hw⟩ => ⟨by rw [he]; show _ = Ending.returned (Value.int .i64 (Lib.index x.data.toList [c])); rw [Lib.index_one], hw⟩)
    ((Tryz.strings_Count_one s c w).mono fun e w' ⟨he, hw⟩ => ⟨by rw [he]; show _ = Ending.returned (Value.int .i64 ((Lib.count s.data.toList [c] : Nat) : Int)); rw [Lib.count_one]; rfl, hw⟩)
    (by decide) (by decide) hN
  rw [Nat.add_sub_cancel, splitB_one] at h
  rw [← partsB_length, Lib.cellsOf_full] at h
  exact h
theorem split_any (c : UInt8) (s : ByteArray) (w : World) (hs : s.size < 4294967281) :
    Calls Tryz.prog 74 #[.string s, .string ⟨#[c]⟩] w fun e w' =>
      e = .returned (.slice (some ⟨w.heap.size, 0, none⟩) (partsB c s).length (partsB c s).length) ∧ w' = w.alloc (.cells ((partsB c s).map Value.string).toArray 9) := by
  go_enter Tryz.func74, Tryz.ntmps74
  go_wp2_with (go_at_call 93; refine (genSplit_dot _ _ _ hs).mono ?_; rintro e w' ⟨rfl, rfl⟩)
  go_ret
  exact ⟨rfl, rfl⟩
theorem sliceStr_new (w : World) (zs : List ByteArray) (t : TypeId) (hl : zs.length ≤ 9223372036854775807) (hz : ∀ z ∈ zs, z.size ≤ 9223372036854775807) :
    SliceStr (w.alloc (.cells (zs.map Value.string).toArray t)) (.slice (some ⟨w.heap.size, 0, none⟩) zs.length zs.length) zs := by
  refine .inr ⟨w.heap.size, 0, zs.length, rfl, Nat.le_refl _, ⟨by omega, hl⟩, by simp, fun j hj => ?_, hz⟩
  rw [cell_of_row (w.alloc _) w.heap.size (0 + j) _ t (0, 0) (heap_alloc_new w _)]
  simp [List.getElem?_map, List.getElem?_eq_getElem hj]
theorem mem_partsB {c : UInt8} {s z : ByteArray} (h : z ∈ partsB c s) : z.size ≤ s.size := by
  unfold partsB partsL at h
  simp only [List.mem_map, List.mem_append, List.mem_singleton] at h
  obtain ⟨p, hp, rfl⟩ := h
  obtain ⟨h1, h2, h3⟩ := foldP_le c s.data.toList
  rw [Lib.size_eq, Lib.size_eq, mkS_toList]
  rcases hp with hp | rfl
  · exact h3 p hp
  · exact h2
theorem partsB_le (c : UInt8) (s : ByteArray) : (partsB c s).length ≤ s.size + 1 := by
  have := partsL_length_le c s.data.toList
  simp [partsB] at *; rw [Lib.size_eq]; simpa using this

theorem gErr_long {s : ByteArray} (h : 80 < s.size) : gErr s = 5 := by rw [gErr, if_pos h]
theorem gErr_name {s : ByteArray} (h : s.size ≤ 80) (h1 : ((partsB 46 s).any fun z => !compB z) = true) : gErr s = 12 := by rw [gErr, if_neg (by omega), if_pos h1]
theorem gErr_limit {s : ByteArray} (h : s.size ≤ 80) (h1 : ((partsB 46 s).any fun z => !compB z) = false) (h2 : 10 < (partsB 46 s).length) : gErr s = 9 := by
  rw [gErr, if_neg (by omega), if_neg (by rw [h1]; decide), if_pos h2]
theorem gErr_ok {s : ByteArray} (h : s.size ≤ 80) (h1 : ((partsB 46 s).any fun z => !compB z) = false) (h2 : (partsB 46 s).length ≤ 10) : gErr s = 0 := by
  rw [gErr, if_neg (by omega), if_neg (by rw [h1]; decide), if_neg (by omega)]

set_option maxHeartbeats 400000 in
theorem check_any (s : ByteArray) (w : World) (hs : s.size ≤ 9223372036854775807) :
    Calls Tryz.prog 99 #[.string s] w fun e w' => e = .returned (.int .i64 (gErr s)) ∧ Below w.heap.size w w' := by
  by_cases h0 : 80 < s.size
  · go_enter Tryz.func99, Tryz.ntmps99
    go_wp2_with fail
    go_ret
    exact ⟨ret_int (gErr_long h0).symm, Below.refl _ _⟩
  · have h1 : s.size ≤ 80 := by omega
    clear h0
    obtain ⟨zs, hzs⟩ : ∃ zs, zs = partsB 46 s := ⟨_, rfl⟩
    have hsp := split_any 46 s w (by omega)
    have hss := sliceStr_new w (partsB 46 s) 9 (by have := partsB_le 46 s; omega) (fun z hz => by have := mem_partsB hz; omega)
    have hl : (partsB 46 s).length ≤ 81 := by have := partsB_le 46 s; omega
    rw [← hzs] at hsp hss hl
    have hzs' := Lib.hid hzs
    clear hzs
    have hss' := Lib.hid hss
    clear hss
    have hsp' := Lib.hid hsp
    clear hsp
    go_enter Tryz.func99, Tryz.ntmps99
    go_wp2_with (first
      | (go_at_call 74; refine hsp'.out.mono ?_; rintro e w' ⟨rfl, rfl⟩)
      | (go_at_call 118; refine (containsfunc_any _ _ _ hss'.out).mono ?_; rintro e w' ⟨rfl, hb⟩))
    all_goals
      go_ret
      refine ⟨ret_int ?_, ((Below.refl _ w).alloc (Nat.le_refl _) _).trans ((by assumption : Below (w.alloc _).heap.size (w.alloc _) _).mono (by simp))⟩
    · have hf : (zs.any fun z => !compB z) = true := by assumption
      rw [hzs'.out] at hf
      exact (gErr_name h1 hf).symm
    · have hf : (zs.any fun z => !compB z) = false := by assumption
      have hg : 10 < zs.length := by omega
      rw [hzs'.out] at hf hg
      exact (gErr_limit h1 hf hg).symm
    · have hf : (zs.any fun z => !compB z) = false := by assumption
      have hg : zs.length ≤ 10 := by omega
      rw [hzs'.out] at hf hg
      exact (gErr_ok h1 hf hg).symm
end Go.Proofs.YtlemadbmlnjhpaaGreatDoor
