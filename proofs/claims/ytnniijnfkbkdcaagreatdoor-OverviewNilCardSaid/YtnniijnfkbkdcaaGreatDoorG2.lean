/- The contracts of the functions on groups' names: groupname's component, Check and list, and the reference's Component, Parts, Check and CheckList. -/
/- The contracts of groupname's list and FormatList and of the reference's Component, Parts, Check and CheckList. -/
/- The contracts of the reference's Component, Parts, Check and CheckList (layer 12). -/
import Derived.Test.YtnniijnfkbkdcaaGreatDoorG1
import Derived.Test.YtnniijnfkbkdcaaGreatDoorShelf
import Derived.Deep.DeepFit
import Derived.Maps.AppendAt
import Derived.Deep.AppendLies
namespace Go.Proofs.YtnniijnfkbkdcaaGreatDoor
open Go Go.RowKit Go.Proofs
set_option linter.unusedSimpArgs false
set_option linter.unusedVariables false

theorem permclos_at (w : World) : PredAt Tryz.prog 138 #[] encR (fun r => !permN r) w := fun W r _ => by
  unfold FnGives
  show Calls Tryz.prog 138 #[.int .i32 (r : Int)] W _
  go_enter Tryz.func138, Tryz.ntmps138
  go_wp2_with (go_at_call 139; refine (permitted_any _ _).mono ?_; rintro e w' ⟨rfl, rfl⟩)
  go_ret
  exact ⟨rfl, 0, rfl⟩

theorem permclos_enters : ∀ (args : Array Value) (w : World), Sem.run Tryz.prog (callFunc 138 args) w = Result.ok (Next.enter 138 args) w :=
  enters_of Tryz.func138 (by kernel_rfl) rfl

def someBad (s : ByteArray) : Bool := decide (0 ≤ Lib.idxFunc (fun r => !permN r) true s)
theorem contains_perm (s : ByteArray) (w : World) :
    Calls Tryz.prog 137 #[.string s, .func (.func 138) #[] #[]] w fun e w' => e = .returned (.bool (someBad s)) ∧ Below w.heap.size w w' :=
  Tryz.strings_ContainsFunc _ _ permclos_enters _ _ _ (permclos_at w)

theorem get_bt (s : ByteArray) {k : Nat} (h : k < s.size) : (s.get! k).toNat = bt s k := by
  rw [bt, dif_pos h]
  congr 1
  exact getElem!_pos s.data k h
theorem decode_ascii (s : ByteArray) {k : Nat} (h : k < s.size) (hb : bt s k < 128) : Utf8.decode s k = (bt s k, 1) := by
  have e := get_bt s h
  unfold Utf8.decode
  simp only [Nat.add_zero, e]
  rw [if_pos (by omega)]
theorem decode_high (s : ByteArray) {k : Nat} (h : k < s.size) (hb : 128 ≤ bt s k) : 128 ≤ (Utf8.decode s k).1 := by
  have e := get_bt s h
  unfold Utf8.decode
  simp only [Nat.add_zero, e]
  rw [if_neg (by omega)]
  repeat' split
  all_goals first
    | (simp [Utf8.runeError]; done)
    | (simp only [Bool.and_eq_true, decide_eq_true_eq, ge_iff_le] at *; omega)
theorem permN_high {n : Nat} (h : 128 ≤ n) : permN n = false := by rw [permN_not]; omega
theorem idxFrom_bad (s : ByteArray) : ∀ (f pos : Nat), s.size ≤ pos + f → (0 ≤ Lib.idxFuncFrom (fun r => !permN r) true s f pos ↔ ∃ k, pos ≤ k ∧ k < s.size ∧ permN (bt s k) = false)
  | 0, pos, h => by
    unfold Lib.idxFuncFrom
    exact ⟨fun h' => by omega, fun ⟨k, h1, h2, _⟩ => by omega⟩
  | f + 1, pos, h => by
    unfold Lib.idxFuncFrom
    by_cases hp : pos < s.size
    · rw [if_pos hp]
      by_cases ha : bt s pos < 128
      · rw [decode_ascii s hp ha]
        by_cases hb : permN (bt s pos) = true
        · rw [if_neg (by simp [hb])]
          rw [idxFrom_bad s f (pos + 1) (by omega)]
          exact ⟨fun ⟨k, h1, h2, h3⟩ => ⟨k, by omega, h2, h3⟩, fun ⟨k, h1, h2, h3⟩ => ⟨k, by
            have : k ≠ pos := fun e => by subst e; rw [hb] at h3; cases h3
            omega, h2, h3⟩⟩
        · rw [if_pos (by simpa using hb)]
          exact ⟨fun _ => ⟨pos, Nat.le_refl _, hp, by simpa using hb⟩, fun _ => by omega⟩
      · have hd := decode_high s hp (by omega)
        rw [if_pos (by rw [permN_high hd]; rfl)]
        exact ⟨fun _ => ⟨pos, Nat.le_refl _, hp, permN_high (by omega)⟩, fun _ => by omega⟩
    · rw [if_neg hp]
      exact ⟨fun h' => by omega, fun ⟨k, h1, h2, _⟩ => by omega⟩
theorem someBad_eq (s : ByteArray) : someBad s = !(List.range s.size).all fun k => permN (bt s k) := by
  unfold someBad Lib.idxFunc
  rw [Bool.eq_iff_iff, decide_eq_true_eq, idxFrom_bad s s.size 0 (by omega)]
  simp

theorem compB_eq (s : ByteArray) : compB s = (decide (0 < s.size) && decide (s.size ≤ 20) && lowN (bt s 0) && !someBad s) := by
  rw [someBad_eq, Bool.not_not]; rfl

set_option maxHeartbeats 400000 in
theorem component_any (s : ByteArray) (w : World) (hs : s.size ≤ 9223372036854775807) :
    Calls Tryz.prog 104 #[.string s] w fun e w' => e = .returned (.bool (compB s)) ∧ Below w.heap.size w w' := by
  by_cases h0 : s.size = 0
  · have he := empty_true h0
    clear hs
    go_enter Tryz.func104, Tryz.ntmps104
    go_wp2_with fail
    go_ret
    exact ⟨ret_bool (by simp [compB, h0]), Below.refl _ _⟩
  · have he := empty_false h0
    have hpos : 0 < s.size := by omega
    go_enter Tryz.func104, Tryz.ntmps104
    go_wp2_with (go_at_call 137; refine (contains_perm _ _).mono ?_; rintro e w' ⟨rfl, hb⟩)
    all_goals
      go_ret
      refine ⟨ret_bool ?_, by first | assumption | exact Below.refl _ _⟩
      rw [compB_eq]
      try simp only [bt_at] at *
      first
        | rw [decide_eq_true hpos, decide_eq_true (by omega : s.size ≤ 20), (lowN_iff _).2 (by omega)]; rfl
        | rw [(lowN_not _).2 (by omega)]; simp
        | rw [decide_eq_false (by omega : ¬ s.size ≤ 20)]; simp

/-- the value v is a slice of strings that reads as zs -/
def SliceStr (w : World) (v : Value) (zs : List ByteArray) : Prop :=
  (∃ A c, v = .slice A 0 c ∧ zs = []) ∨ ∃ b o c, v = .slice (some ⟨b, o, none⟩) zs.length c ∧ zs.length ≤ c ∧ (c ≤ 9223372036854775807 ∧ zs.length ≤ 9223372036854775807) ∧ b < w.heap.size ∧ (∀ j, j < zs.length → w.cell? ⟨b, o + j, none⟩ = some (.string (zs.getD j ByteArray.empty))) ∧ ∀ z ∈ zs, z.size ≤ 9223372036854775807
theorem SliceStr.below {w w' : World} {v : Value} {zs : List ByteArray} (h : SliceStr w v zs) (hb : Below w.heap.size w w') : SliceStr w' v zs := by
  rcases h with h | ⟨b, o, c, h1, h2, h3, h4, h5, h6⟩
  · exact .inl h
  · exact .inr ⟨b, o, c, h1, h2, h3, by have := hb.size; omega, fun j hj => (hb.cell (p := ⟨b, o + j, none⟩) h4).trans (h5 j hj), h6⟩
theorem getD_mem {zs : List ByteArray} {j : Nat} (h : j < zs.length) : zs.getD j ByteArray.empty ∈ zs := by
  rw [List.getD_eq_getElem?_getD, List.getElem?_eq_getElem h]; exact List.getElem_mem h

theorem checkclos_enters : ∀ (args : Array Value) (w : World), Sem.run Tryz.prog (callFunc 103 args) w = Result.ok (Next.enter 103 args) w :=
  enters_of Tryz.func103 (by kernel_rfl) rfl
theorem checkclos_any (s : ByteArray) (w : World) (hs : s.size ≤ 9223372036854775807) :
    Calls Tryz.prog 103 #[.string s] w fun e w' => e = .returned (.bool (!compB s)) ∧ Below w.heap.size w w' := by
  go_enter Tryz.func103, Tryz.ntmps103
  go_wp2_with (go_at_call 104; refine (component_any _ _ hs).mono ?_; rintro e w' ⟨rfl, hb⟩)
  go_ret
  exact ⟨rfl, by assumption⟩

def SomeInt (p : Int → Prop) (w : World) (e : Ending) (w' : World) : Prop := (∃ r : Int, e = .returned (.int .i64 r) ∧ p r) ∧ Below w.heap.size w w'

set_option maxHeartbeats 800000 in
theorem indexfunc_some (b o c : Nat) (zs : List ByteArray) (w : World) (hn : zs.length ≤ 9223372036854775807) (hb : b < w.heap.size) (hc : ∀ j, j < zs.length → w.cell? ⟨b, o + j, none⟩ = some (.string (zs.getD j ByteArray.empty))) (hz : ∀ z ∈ zs, z.size ≤ 9223372036854775807) :
    Calls Tryz.prog 136 #[.slice (some ⟨b, o, none⟩) zs.length c, .func (.func 103) #[] #[]] w (SomeInt (fun r => 0 ≤ r ↔ ∃ z ∈ zs, compB z = false) w) := by
  have hc' := Lib.hid hc
  have hz' := Lib.hid hz
  clear hc hz
  have ee := checkclos_enters
  go_enter Tryz.func136, Tryz.ntmps136
  go_wp2_with fail
  go_loopw [8] (fun c wr => ∃ k : Nat, Upto zs.length k (fun j => compB (zs.getD j ByteArray.empty) = true) ∧ c = .int .i64 k ∧ Below w.heap.size w wr) (fun c _ => zs.length - (intOf c).toNat)
  case atStart => exact ⟨0, Upto.zero _ _, rfl, Below.refl _ _⟩
  case round =>
    obtain ⟨k, hup, rfl, hbel⟩ := hrel
    have hup' := Lib.hid hup
    have hbel' := Lib.hid hbel
    clear hup hbel
    by_cases hk : k < zs.length
    · obtain ⟨z, hzk⟩ : ∃ z, z = zs.getD k ByteArray.empty := ⟨_, rfl⟩
      have hcell : wr.cell? ⟨b, o + k, none⟩ = some (.string z) := by rw [hzk]; exact (hbel'.out.cell (p := ⟨b, o + k, none⟩) hb).trans (hc'.out k hk)
      have hsz : z.size ≤ 9223372036854775807 := by rw [hzk]; exact hz'.out _ (getD_mem hk)
      have hzk' := Lib.hid hzk
      clear hzk
      go_wp2_with (go_at_call 103; refine (checkclos_any _ _ (by omega)).mono ?_; rintro e w' ⟨rfl, hb1⟩)
      · have hf : compB z = false := by simpa using (by assumption : (!compB z) = true)
        go_ret
        exact ⟨⟨k, rfl, fun _ => ⟨z, by rw [hzk'.out]; exact getD_mem hk, hf⟩, fun _ => by omega⟩, hbel'.out.trans ((by assumption : Below wr.heap.size wr _).mono hbel'.out.size)⟩
      · have hf : compB z = true := by simpa using (by assumption : (!compB z) = false)
        exact ⟨⟨k + 1, hup'.out.next hk (by rw [← hzk'.out]; exact hf), by go_num, hbel'.out.trans ((by assumption : Below wr.heap.size wr _).mono hbel'.out.size)⟩, by simp [intOf]; omega⟩
    · go_wp2_with fail
      go_ret
      refine ⟨⟨-1, rfl, fun h => by omega, fun ⟨z, hz, hf⟩ => ?_⟩, hbel'.out⟩
      obtain ⟨j, hj, rfl⟩ := List.mem_iff_getElem.1 hz
      have : compB (zs.getD j ByteArray.empty) = true := hup'.out.2 j (by omega)
      rw [List.getD_eq_getElem?_getD, List.getElem?_eq_getElem hj] at this
      rw [Option.getD_some, hf] at this
      cases this

theorem indexfunc_any (v : Value) (zs : List ByteArray) (w : World) (hv : SliceStr w v zs) :
    Calls Tryz.prog 136 #[v, .func (.func 103) #[] #[]] w (SomeInt (fun r => 0 ≤ r ↔ ∃ z ∈ zs, compB z = false) w) := by
  rcases hv with ⟨A, c, rfl, rfl⟩ | ⟨b, o, c, rfl, h1, h2, h3, h4, h5⟩
  · go_enter Tryz.func136, Tryz.ntmps136
    go_wp2_with fail
    refine wp_loop_once ?_
    go_wp2_with fail
    go_ret
    exact ⟨⟨-1, rfl, fun h => by omega, fun ⟨z, hz, _⟩ => by cases hz⟩, Below.refl _ _⟩
  · exact indexfunc_some b o c zs w (by omega) h3 h4 h5

theorem containsfunc_any (v : Value) (zs : List ByteArray) (w : World) (hv : SliceStr w v zs) :
    Calls Tryz.prog 102 #[v, .func (.func 103) #[] #[]] w fun e w' => e = .returned (.bool (zs.any fun z => !compB z)) ∧ Below w.heap.size w w' := by
  go_enter Tryz.func102, Tryz.ntmps102
  go_wp2_with (go_at_call 136; refine (indexfunc_any _ _ _ hv).mono ?_; rintro e w' ⟨⟨r, rfl, hr⟩, hb⟩; have hr' := Lib.hid hr; clear hr)
  go_ret
  refine ⟨ret_bool ?_, by assumption⟩
  rw [Bool.eq_iff_iff, decide_eq_true_eq, hr'.out, List.any_eq_true]
  simp

theorem genSplit_dot (c : UInt8) (s : ByteArray) (w : World) (hs : s.size < 4294967281) :
    Calls Tryz.prog 121 #[.string s, .string ⟨#[c]⟩, .int .i64 0, .int .i64 (-1)] w fun e w' =>
      e = .returned (.slice (some ⟨w.heap.size, 0, none⟩) (partsB c s).length (partsB c s).length) ∧ w' = w.alloc (.cells ((partsB c s).map Value.string).toArray 9) := by
  have hN : ((Lib.countB s ⟨#[c]⟩ + 1 : Nat) : Int) = min (if (-1 : Int) < 0 then (Lib.countB s ⟨#[c]⟩ : Int) + 1 else -1) ((s.size : Int) + 1) := by
    have := Lib.countB_le ⟨#[c]⟩ (Nat.le_refl 1) s.size s (Nat.le_refl _)
    rw [if_pos (by decide)]; omega
  have h := Any.strings_genSplit_core Tryz.lays221 (by kernel_rfl) s ⟨#[c]⟩ 0 (-1) (Lib.countB s ⟨#[c]⟩ + 1) w hs (Nat.le_refl 1) (Nat.zero_le _)
    (fun x cc _ => (Tryz.strings_Index_one x c _).mono fun e w' ⟨he, hw⟩ => ⟨by rw [he]; show _ = Ending.returned (Value.int .i64 (Lib.index x.data.toList [c])); rw [Lib.index_one], hw⟩)
    ((Tryz.strings_Count_one s c w).mono fun e w' ⟨he, hw⟩ => ⟨by rw [he]; show _ = Ending.returned (Value.int .i64 ((Lib.count s.data.toList [c] : Nat) : Int)); rw [Lib.count_one]; rfl, hw⟩)
    (by decide) (by decide) hN
  rw [Nat.add_sub_cancel, splitB_one] at h
  rw [← partsB_length, Lib.cellsOf_full] at h
  exact h
theorem split_any (c : UInt8) (s : ByteArray) (w : World) (hs : s.size < 4294967281) :
    Calls Tryz.prog 83 #[.string s, .string ⟨#[c]⟩] w fun e w' =>
      e = .returned (.slice (some ⟨w.heap.size, 0, none⟩) (partsB c s).length (partsB c s).length) ∧ w' = w.alloc (.cells ((partsB c s).map Value.string).toArray 9) := by
  go_enter Tryz.func83, Tryz.ntmps83
  go_wp2_with (go_at_call 121; refine (genSplit_dot _ _ _ hs).mono ?_; rintro e w' ⟨rfl, rfl⟩)
  go_ret
  exact ⟨rfl, rfl⟩
theorem sliceStr_new (w : World) (zs : List ByteArray) (t : TypeId) (hl : zs.length ≤ 9223372036854775807) (hz : ∀ z ∈ zs, z.size ≤ 9223372036854775807) :
    SliceStr (w.alloc (.cells (zs.map Value.string).toArray t)) (.slice (some ⟨w.heap.size, 0, none⟩) zs.length zs.length) zs := by
  refine .inr ⟨w.heap.size, 0, zs.length, rfl, Nat.le_refl _, ⟨by omega, hl⟩, by simp, fun j hj => ?_, hz⟩
  rw [cell_of_row (w.alloc _) w.heap.size (0 + j) _ t (0, 0) (heap_alloc_new w _)]
  simp [List.getElem?_map, List.getElem?_eq_getElem hj]
theorem mem_partsB {c : UInt8} {s z : ByteArray} (h : z ∈ partsB c s) : z.size ≤ s.size := by
  unfold partsB partsL at h
  simp only [List.mem_map, List.mem_append, List.mem_singleton] at h
  obtain ⟨p, hp, rfl⟩ := h
  obtain ⟨h1, h2, h3⟩ := foldP_le c s.data.toList
  rw [Lib.size_eq, Lib.size_eq, mkS_toList]
  rcases hp with hp | rfl
  · exact h3 p hp
  · exact h2
theorem partsB_le (c : UInt8) (s : ByteArray) : (partsB c s).length ≤ s.size + 1 := by
  have := partsL_length_le c s.data.toList
  simp [partsB] at *; rw [Lib.size_eq]; simpa using this

theorem gErr_long {s : ByteArray} (h : 80 < s.size) : gErr s = 5 := by rw [gErr, if_pos h]
theorem gErr_name {s : ByteArray} (h : s.size ≤ 80) (h1 : ((partsB 46 s).any fun z => !compB z) = true) : gErr s = 12 := by rw [gErr, if_neg (by omega), if_pos h1]
theorem gErr_limit {s : ByteArray} (h : s.size ≤ 80) (h1 : ((partsB 46 s).any fun z => !compB z) = false) (h2 : 10 < (partsB 46 s).length) : gErr s = 9 := by
  rw [gErr, if_neg (by omega), if_neg (by rw [h1]; decide), if_pos h2]
theorem gErr_ok {s : ByteArray} (h : s.size ≤ 80) (h1 : ((partsB 46 s).any fun z => !compB z) = false) (h2 : (partsB 46 s).length ≤ 10) : gErr s = 0 := by
  rw [gErr, if_neg (by omega), if_neg (by rw [h1]; decide), if_neg (by omega)]

set_option maxHeartbeats 400000 in
theorem check_any (s : ByteArray) (w : World) (hs : s.size ≤ 9223372036854775807) :
    Calls Tryz.prog 58 #[.string s] w fun e w' => e = .returned (.int .i64 (gErr s)) ∧ Below w.heap.size w w' := by
  by_cases h0 : 80 < s.size
  · go_enter Tryz.func58, Tryz.ntmps58
    go_wp2_with fail
    go_ret
    exact ⟨ret_int (gErr_long h0).symm, Below.refl _ _⟩
  · have h1 : s.size ≤ 80 := by omega
    clear h0
    obtain ⟨zs, hzs⟩ : ∃ zs, zs = partsB 46 s := ⟨_, rfl⟩
    have hsp := split_any 46 s w (by omega)
    have hss := sliceStr_new w (partsB 46 s) 9 (by have := partsB_le 46 s; omega) (fun z hz => by have := mem_partsB hz; omega)
    have hl : (partsB 46 s).length ≤ 81 := by have := partsB_le 46 s; omega
    rw [← hzs] at hsp hss hl
    have hzs' := Lib.hid hzs
    clear hzs
    have hss' := Lib.hid hss
    clear hss
    have hsp' := Lib.hid hsp
    clear hsp
    go_enter Tryz.func58, Tryz.ntmps58
    go_wp2_with (first
      | (go_at_call 83; refine hsp'.out.mono ?_; rintro e w' ⟨rfl, rfl⟩)
      | (go_at_call 102; refine (containsfunc_any _ _ _ hss'.out).mono ?_; rintro e w' ⟨rfl, hb⟩))
    all_goals
      go_ret
      refine ⟨ret_int ?_, ((Below.refl _ w).alloc (Nat.le_refl _) _).trans ((by assumption : Below (w.alloc _).heap.size (w.alloc _) _).mono (by simp))⟩
    · have hf : (zs.any fun z => !compB z) = true := by assumption
      rw [hzs'.out] at hf
      exact (gErr_name h1 hf).symm
    · have hf : (zs.any fun z => !compB z) = false := by assumption
      have hg : 10 < zs.length := by omega
      rw [hzs'.out] at hf hg
      exact (gErr_limit h1 hf hg).symm
    · have hf : (zs.any fun z => !compB z) = false := by assumption
      have hg : zs.length ≤ 10 := by omega
      rw [hzs'.out] at hf hg
      exact (gErr_ok h1 hf hg).symm
end Go.Proofs.YtnniijnfkbkdcaaGreatDoor
namespace Go.Proofs.YtnniijnfkbkdcaaGreatDoor
open Go Go.RowKit Go.Proofs
set_option linter.unusedSimpArgs false
set_option linter.unusedVariables false

/-- the error of the names of a list, of which those in seen stood before -/
def glFrom (seen : List ByteArray) : List ByteArray → Int
  | [] => 0
  | z :: r => if gErr z ≠ 0 then gErr z else if Lib.containsS seen z then 7 else glFrom (seen ++ [z]) r
def glErr (zs : List ByteArray) : Int := if 20 < zs.length then 9 else glFrom [] zs
theorem glFrom_at (zs : List ByteArray) {k : Nat} (h : k < zs.length) : glFrom (zs.take k) (zs.drop k) = if gErr (zs.getD k ByteArray.empty) ≠ 0 then gErr (zs.getD k ByteArray.empty) else if Lib.containsS (zs.take k) (zs.getD k ByteArray.empty) then 7 else glFrom (zs.take (k + 1)) (zs.drop (k + 1)) := by
  rw [List.drop_eq_getElem_cons h, glFrom, List.getD_eq_getElem?_getD, List.getElem?_eq_getElem h, Option.getD_some, List.take_succ_eq_append_getElem h]
def GlAt (zs : List ByteArray) (k : Nat) : Prop := k ≤ zs.length ∧ glErr zs = glFrom (zs.take k) (zs.drop k)
theorem GlAt.zero {zs : List ByteArray} (h : zs.length ≤ 20) : GlAt zs 0 := ⟨Nat.zero_le _, by rw [glErr, if_neg (by omega)]; simp⟩
theorem GlAt.err {zs : List ByteArray} {k : Nat} (h : GlAt zs k) (hk : k < zs.length) (he : gErr (zs.getD k ByteArray.empty) ≠ 0) : glErr zs = gErr (zs.getD k ByteArray.empty) := by
  rw [h.2, glFrom_at zs hk, if_pos he]
theorem GlAt.dup {zs : List ByteArray} {k : Nat} (h : GlAt zs k) (hk : k < zs.length) (he : gErr (zs.getD k ByteArray.empty) = 0) (hd : Lib.containsS (zs.take k) (zs.getD k ByteArray.empty) = true) : glErr zs = 7 := by
  rw [h.2, glFrom_at zs hk, if_neg (fun hn => hn he), if_pos hd]
theorem GlAt.next {zs : List ByteArray} {k : Nat} (h : GlAt zs k) (hk : k < zs.length) (he : gErr (zs.getD k ByteArray.empty) = 0) (hd : Lib.containsS (zs.take k) (zs.getD k ByteArray.empty) = false) : GlAt zs (k + 1) :=
  ⟨hk, by rw [h.2, glFrom_at zs hk, if_neg (fun hn => hn he), if_neg (by rw [hd]; decide)]⟩
theorem GlAt.done {zs : List ByteArray} {k : Nat} (h : GlAt zs k) (hk : ¬ k < zs.length) : glErr zs = 0 := by
  rw [h.2, List.drop_of_length_le (by omega)]; rfl
theorem gErr_small {s : ByteArray} (h : gErr s = 0) : s.size ≤ 80 := by
  unfold gErr at h; split at h
  · cases h
  · omega

/-- FormatList's error, whatever its text -/
def fmtErr (zs : List ByteArray) : Int := if zs.length = 0 then 4 else glErr zs
def SomeStr (err : Int) (w : World) (e : Ending) (w' : World) : Prop := (∃ t : ByteArray, e = .returned (.tuple #[.string t, .int .i64 err])) ∧ Below w.heap.size w w'
def GlOk (zs : List ByteArray) : Prop := zs.length ≤ 20 ∧ ∀ z ∈ zs, z.size ≤ 80
theorem glFrom_zero : ∀ (r seen : List ByteArray), glFrom seen r = 0 → ∀ z ∈ r, gErr z = 0
  | [], _, _, _, hz => by cases hz
  | z :: r, seen, h, x, hx => by
    simp only [glFrom] at h
    split at h
    · rename_i hne; exact absurd h hne
    · rename_i hne
      split at h
      · cases h
      · rcases List.mem_cons.1 hx with rfl | hx
        · exact Classical.byContradiction hne
        · exact glFrom_zero r _ h x hx
theorem glErr_ok {zs : List ByteArray} (h : glErr zs = 0) : GlOk zs := by
  unfold glErr at h
  split at h
  · cases h
  · exact ⟨by omega, fun z hz => gErr_small (glFrom_zero zs [] h z hz)⟩
theorem joinTail_le (sep : List UInt8) : ∀ (l : List (List UInt8)), (∀ x ∈ l, x.length ≤ 80) → (Lib.joinTail sep l).length ≤ l.length * (80 + sep.length)
  | [], _ => by simp [Lib.joinTail]
  | x :: r, h => by
    have h1 := h x (by simp)
    have h2 := joinTail_le sep r (fun z hz => h z (by simp [hz]))
    unfold Lib.joinTail at *
    simp only [List.map_cons, List.flatten_cons, List.length_append, List.length_cons]
    have : (r.length + 1) * (80 + sep.length) = r.length * (80 + sep.length) + (80 + sep.length) := by rw [Nat.add_mul]; omega
    omega
theorem join_le (sep : List UInt8) (l : List (List UInt8)) (h : ∀ x ∈ l, x.length ≤ 80) : (Lib.join l sep).length ≤ 80 + l.length * (80 + sep.length) := by
  cases l with
  | nil => simp [Lib.join_nil]
  | cons x r =>
    have h1 := h x (by simp)
    have h2 := joinTail_le sep r (fun z hz => h z (by simp [hz]))
    rw [Lib.join_cons, List.length_append, List.length_cons]
    have : (r.length + 1) * (80 + sep.length) = r.length * (80 + sep.length) + (80 + sep.length) := by rw [Nat.add_mul]; omega
    omega
end Go.Proofs.YtnniijnfkbkdcaaGreatDoor
namespace Go.Proofs.YtnniijnfkbkdcaaGreatDoor
open Go Go.RowKit Go.Proofs
set_option linter.unusedSimpArgs false
set_option linter.unusedVariables false

set_option maxHeartbeats 1600000 in
theorem refcomponent_any (s : ByteArray) (w : World) (hs : s.size ≤ 9223372036854775807) :
    Calls Tryz.prog 107 #[.string s] w fun e w' => e = .returned (.bool (compB s)) ∧ w = w' := by
  by_cases h0 : s.size = 0
  · have h0' : s.size < 1 := by omega
    clear hs
    go_enter Tryz.func107, Tryz.ntmps107
    go_wp2_with fail
    go_ret
    exact ⟨ret_bool (by simp [compB, h0]), rfl⟩
  · have hpos : 0 < s.size := by omega
    by_cases h20 : 20 < s.size
    · go_enter Tryz.func107, Tryz.ntmps107
      go_wp2_with fail
      go_ret
      exact ⟨ret_bool (by simp [compB]; omega), rfl⟩
    · have h20' : s.size ≤ 20 := by omega
      clear h20 h0
      have hb0 := Lib.hid (bt_at s 0 hpos)
      by_cases hl : 97 ≤ s[0].toNat ∧ s[0].toNat ≤ 122
      · obtain ⟨hl1, hl2⟩ := hl
        have hlow : Hid (lowN (bt s 0) = true) := by rw [← hb0.out]; exact (lowN_iff _).2 ⟨hl1, hl2⟩
        go_enter Tryz.func107, Tryz.ntmps107
        go_wp2_with fail
        go_loop [3] (fun c => ∃ k : Nat, 1 ≤ k ∧ Upto s.size k (fun j => permN (bt s j) = true) ∧ c = .int .i64 k) (fun c => s.size - (intOf c).toNat)
        case atStart => exact ⟨1, Nat.le_refl _, (Upto.zero _ _).next hpos (lowN_perm hlow.out), rfl⟩
        case round =>
          obtain ⟨k, hk1, hup, rfl⟩ := hrel
          have hup' := Lib.hid hup
          clear hup
          by_cases hk : k < s.size
          · have hb' := Lib.hid (bt_at s k hk)
            clear hl1 hl2
            go_wp2_with fail
            all_goals first
              | (go_ret
                 refine ⟨ret_bool (compB_bad hk ?_).symm, rfl⟩
                 rw [← hb'.out, permN_not]
                 simp only [Bool.not_eq_true', Bool.not_eq_false', decide_eq_true_eq, decide_eq_false_iff_not, beq_iff_eq, beq_eq_false_iff_ne, ne_eq] at *
                 omega)
              | (refine ⟨⟨k + 1, by omega, hup'.out.next hk ?_, by go_num⟩, by simp [intOf]; omega⟩
                 rw [← hb'.out, permN_iff]
                 simp only [Bool.not_eq_true', Bool.not_eq_false', decide_eq_true_eq, decide_eq_false_iff_not, beq_iff_eq, beq_eq_false_iff_ne, ne_eq] at *
                 omega)
          · go_wp2_with fail
            go_ret
            exact ⟨ret_bool (compB_true hpos h20' hlow.out (fun j hj => hup'.out.2 j (by omega))).symm, rfl⟩
      · have hlow : lowN (bt s 0) = false := by rw [← hb0.out]; exact (lowN_not _).2 hl
        have hlow' := Lib.hid hlow
        clear hlow
        by_cases h1 : s[0].toNat < 97
        · clear hl
          go_enter Tryz.func107, Tryz.ntmps107
          go_wp2_with fail
          go_ret
          exact ⟨ret_bool (by simp [compB, hlow'.out]), rfl⟩
        · have h2 : 122 < s[0].toNat := by omega
          clear hl
          go_enter Tryz.func107, Tryz.ntmps107
          go_wp2_with fail
          go_ret
          exact ⟨ret_bool (by simp [compB, hlow'.out]), rfl⟩

theorem Tryz.infoStr : (Tryz.prog.info? 9).map (fun i => (i.zero, i.size, i.bytes)) = some (some (.string ByteArray.empty), 1, 16) := by kernel_rfl

/-- a slice of the call's own that holds strings reads as these strings -/
theorem sliceStr_own {w : World} {base : Nat} {e : TypeId} {v : Value} {zs : List ByteArray} (h : w.ownsRow base e 1 v zs.length (zs.map Value.string)) (hc : zs.length ≤ 9223372036854775807) (hz : ∀ z ∈ zs, z.size ≤ 9223372036854775807) : SliceStr w v zs := by
  by_cases h0 : zs.length = 0
  · obtain rfl : zs = [] := List.eq_nil_of_length_eq_zero h0
    obtain ⟨h1, h2⟩ := h
    rcases h2 with ⟨rfl, _⟩ | ⟨g, cap, cur, rfl, _⟩
    · exact .inl ⟨_, _, rfl, rfl⟩
    · exact .inl ⟨_, _, rfl, rfl⟩
  · obtain ⟨h1, h2⟩ := h
    rcases h2 with ⟨rfl, hn⟩ | ⟨g, cap, cur, rfl, hb, hg, h3, h4, h5, h6⟩
    · exact absurd hn h0
    · have hlt : g < w.heap.size := (Array.getElem?_eq_some_iff.1 hg).1
      refine .inr ⟨g, 0, cap, rfl, h3, ⟨by unfold maxLen at h4; omega, hc⟩, hlt, fun j hj => ?_, hz⟩
      rw [cell_of_row w g (0 + j) cur e (0, 0) hg]
      have : (cur.toList.take (zs.length * 1))[j]? = (zs.map Value.string)[j]? := by rw [h6]
      rw [List.getElem?_take, if_pos (by omega), List.getElem?_map, List.getElem?_eq_getElem hj] at this
      simp [List.getElem?_eq_getElem hj]
      simpa using this

theorem mkS_append (a b : List UInt8) : mkS (a ++ b) = mkS a ++ mkS b := by
  rw [← mkS_data (mkS a ++ mkS b)]
  simp [mkS]
/-- what Parts has after k bytes -/
def PartsAt (s : ByteArray) (c : UInt8) (k : Nat) (out : List ByteArray) (part : ByteArray) : Prop :=
  k ≤ s.size ∧ (foldP c (s.data.toList.take k)).1.map mkS = out ∧ mkS (foldP c (s.data.toList.take k)).2 = part
theorem PartsAt.zero (s : ByteArray) (c : UInt8) : PartsAt s c 0 [] ⟨#[]⟩ := ⟨Nat.zero_le _, rfl, rfl⟩
theorem take_snoc (s : ByteArray) (k : Nat) (h : k < s.size) : s.data.toList.take (k + 1) = s.data.toList.take k ++ [s[k]] := by
  rw [List.take_succ_eq_append_getElem (by simpa using h)]; rfl
theorem PartsAt.hit {s : ByteArray} {c : UInt8} {k : Nat} {out : List ByteArray} {part : ByteArray} (h : PartsAt s c k out part) (hk : k < s.size) (hc : s[k] = c) : PartsAt s c (k + 1) (out ++ [part]) ⟨#[]⟩ := by
  obtain ⟨h1, h2, h3⟩ := h
  refine ⟨hk, ?_, ?_⟩
  · rw [take_snoc s k hk, foldP_snoc, stepP, if_pos hc, ← h2, ← h3]; simp
  · rw [take_snoc s k hk, foldP_snoc, stepP, if_pos hc]; rfl
theorem PartsAt.miss {s : ByteArray} {c : UInt8} {k : Nat} {out : List ByteArray} {part : ByteArray} (h : PartsAt s c k out part) (hk : k < s.size) (hc : s[k] ≠ c) : PartsAt s c (k + 1) out (part ++ s.extract k (k + 1)) := by
  obtain ⟨h1, h2, h3⟩ := h
  refine ⟨hk, ?_, ?_⟩
  · rw [take_snoc s k hk, foldP_snoc, stepP, if_neg hc, ← h2]
  · rw [take_snoc s k hk, foldP_snoc, stepP, if_neg hc, ← h3]
    have e : s.extract k (k + 1) = mkS [s[k]] := by
      have h := Lib.extract_data s k (k + 1)
      have hk' : k < s.data.toList.length := by rw [← Lib.size_eq]; exact hk
      rw [List.drop_eq_getElem_cons hk', show k + 1 - k = 1 by omega] at h
      rw [← mkS_data (s.extract k (k + 1)), h]
      rfl
    rw [e, mkS_append]
theorem PartsAt.done {s : ByteArray} {c : UInt8} {k : Nat} {out : List ByteArray} {part : ByteArray} (h : PartsAt s c k out part) (hk : ¬ k < s.size) : partsB c s = out ++ [part] := by
  obtain ⟨h1, h2, h3⟩ := h
  have e : s.data.toList.take k = s.data.toList := List.take_of_length_le (by rw [← Lib.size_eq]; omega)
  rw [e] at h2 h3
  rw [partsB, partsL, List.map_append, h2, List.map_cons, h3]; rfl
theorem PartsAt.le {s : ByteArray} {c : UInt8} {k : Nat} {out : List ByteArray} {part : ByteArray} (h : PartsAt s c k out part) : out.length ≤ k ∧ part.size ≤ k := by
  obtain ⟨h1, h2, h3⟩ := h
  obtain ⟨g1, g2, _⟩ := foldP_le c (s.data.toList.take k)
  have hl : (s.data.toList.take k).length ≤ k := List.length_take_le _ _
  rw [← h2, ← h3, Lib.size_eq, mkS_toList, List.length_map]
  omega

def PartsEnd (zs : List ByteArray) (w : World) (e : Ending) (w' : World) : Prop := (∃ v, e = .returned v ∧ SliceStr w' v zs) ∧ Below w.heap.size w w'

set_option maxHeartbeats 1600000 in
theorem parts_any (s : ByteArray) (c : UInt8) (w : World) (hs : s.size ≤ 1000000) :
    Calls Tryz.prog 38 #[.string s, .int .u8 (c.toNat : Int)] w (PartsEnd (partsB c s) w) := by
  obtain ⟨i0, hi, hz0, hz1, hz2⟩ := info_parts Tryz.infoStr
  go_enter Tryz.func38, Tryz.ntmps38
  go_wp2_with fail
  go_loopw [5, 6, 7] (fun v p i wr => ∃ (k : Nat) (out : List ByteArray) (part : ByteArray), PartsAt s c k out part ∧ p = .string part ∧ i = .int .i64 k ∧ wr.ownsRow w.heap.size 9 1 v out.length (out.map Value.string) ∧ Below w.heap.size w wr) (fun _ _ i _ => s.size - (intOf i).toNat)
  case atStart => exact ⟨0, [], ⟨#[]⟩, PartsAt.zero _ _, rfl, rfl, World.ownsRow_nil _ _ _ _, Below.refl _ _⟩
  case round =>
    obtain ⟨k, out, part, hat, rfl, rfl, hown, hbel⟩ := hrel
    have hle := hat.le
    have hk0 : k ≤ s.size := hat.1
    obtain ⟨hle1, hle2⟩ := hle
    have hat' := Lib.hid hat
    clear hat
    by_cases hk : k < s.size
    · by_cases hc : s[k] = c
      · have hcb : ((s[k].toNat : Int) == (c.toNat : Int)) = true := by rw [hc]; simp
        have hc' := Lib.hid hc
        clear hc
        go_wp2_with (at_builtin; refine wpList_append_own _ rfl _ _ 68 rfl w.heap.size 9 i0 (.string ByteArray.empty) 1 16 Tryz.underlying68 hi hz0 hz1 hz2 rfl (by decide) _ _ _ rfl (hown.alloc _) ⟨wr.heap.size, 0, none⟩ 1 1 [.string part] rfl rfl ?c1 ?c2 ?c3 ?c4 ?c5 ?_)
        case c1 => exact cell_one_new _ _ _
        case c2 => intro u hu; simp at hu; subst hu; rfl
        case c3 => unfold maxLen; omega
        case c4 => omega
        case c5 => have := hbel.size; simp; omega
        intro v' w1 hown' hgrow _
        have hb1 : Below w.heap.size w w1 := (hbel.alloc hbel.size _).grown hgrow (by have := hbel.size; simp; omega) (fun j hj => (hown.lt j hj).1)
        clear hgrow hown
        have hown2 : w1.ownsRow w.heap.size 9 1 v' (out ++ [part]).length ((out ++ [part]).map Value.string) := by simpa using hown'
        clear hown'
        have hown3 := Lib.hid hown2
        have hb3 := Lib.hid hb1
        clear hown2 hb1
        go_wp2_with fail
        exact ⟨⟨k + 1, out ++ [part], ⟨#[]⟩, hat'.out.hit hk hc'.out, rfl, by go_num, hown3.out, hb3.out⟩, by simp [intOf]; omega⟩
      · have hcb : ((s[k].toNat : Int) == (c.toNat : Int)) = false := by
          rw [beq_eq_false_iff_ne]; intro he; exact hc (UInt8.toNat_inj.1 (by omega))
        have hc' := Lib.hid hc
        clear hc
        have hown' := Lib.hid hown
        have hbel' := Lib.hid hbel
        clear hown hbel
        go_wp2_with fail
        exact ⟨⟨k + 1, out, _, hat'.out.miss hk hc'.out, rfl, by go_num, hown'.out, hbel'.out⟩, by simp [intOf]; omega⟩
    · have hd := Lib.hid (hat'.out.done hk)
      go_wp2_with (at_builtin; refine wpList_append_own _ rfl _ _ 68 rfl w.heap.size 9 i0 (.string ByteArray.empty) 1 16 Tryz.underlying68 hi hz0 hz1 hz2 rfl (by decide) _ _ _ rfl (hown.alloc _) ⟨wr.heap.size, 0, none⟩ 1 1 [.string part] rfl rfl ?c1 ?c2 ?c3 ?c4 ?c5 ?_)
      case c1 => exact cell_one_new _ _ _
      case c2 => intro u hu; simp at hu; subst hu; rfl
      case c3 => unfold maxLen; omega
      case c4 => omega
      case c5 => have := hbel.size; simp; omega
      intro v' w1 hown' hgrow _
      have hb1 : Below w.heap.size w w1 := (hbel.alloc hbel.size _).grown hgrow (by have := hbel.size; simp; omega) (fun j hj => (hown.lt j hj).1)
      clear hgrow hown
      have hown2 : w1.ownsRow w.heap.size 9 1 v' (out ++ [part]).length ((out ++ [part]).map Value.string) := by simpa using hown'
      clear hown'
      rw [← hd.out] at hown2
      have hfin := Lib.hid (sliceStr_own hown2 (by have := partsB_le c s; omega) (fun z hz => by have := mem_partsB hz; omega))
      have hb3 := Lib.hid hb1
      clear hown2 hb1
      go_wp2_with fail
      go_ret
      exact ⟨⟨v', rfl, hfin.out⟩, hb3.out⟩

set_option maxHeartbeats 800000 in
theorem refcheck_any (s : ByteArray) (w : World) (hs : s.size ≤ 9223372036854775807) :
    Calls Tryz.prog 61 #[.string s] w fun e w' => e = .returned (.int .i64 (gErr s)) ∧ Below w.heap.size w w' := by
  by_cases h0 : 80 < s.size
  · go_enter Tryz.func61, Tryz.ntmps61
    go_wp2_with fail
    go_ret
    exact ⟨ret_int (gErr_long h0).symm, Below.refl _ _⟩
  · have h1 : s.size ≤ 80 := by omega
    clear h0
    obtain ⟨zs, hzs⟩ : ∃ zs, zs = partsB 46 s := ⟨_, rfl⟩
    have hsp := parts_any s 46 w (by omega)
    have hl : zs.length ≤ 81 := by rw [hzs]; have := partsB_le 46 s; omega
    have hsz : ∀ z ∈ zs, z.size ≤ 80 := fun z hz => by rw [hzs] at hz; have := mem_partsB hz; omega
    rw [← hzs] at hsp
    have hzs' := Lib.hid hzs
    have hsp' := Lib.hid hsp
    have hsz' := Lib.hid hsz
    clear hzs hsp hsz
    go_enter Tryz.func61, Tryz.ntmps61
    go_wp2_with (go_at_call 38; refine hsp'.out.mono ?_; rintro e w1 ⟨⟨v, rfl, hv⟩, hb1⟩; have hv' := Lib.hid hv; have hb' := Lib.hid hb1; clear hv hb1)
    have hvv := hv'.out
    rcases hvv with ⟨A, c, rfl, rfl⟩ | ⟨b, o, c, rfl, g1, g2, g3, g4, g5⟩
    · exact absurd hzs'.out (by unfold partsB partsL; simp)
    · have g4' := Lib.hid g4
      clear g4 g5
      go_loop [4] (fun i => ∃ k : Nat, Upto zs.length k (fun j => compB (zs.getD j ByteArray.empty) = true) ∧ i = .int .i64 k) (fun i => zs.length - (intOf i).toNat)
      case atStart => exact ⟨0, Upto.zero _ _, rfl⟩
      case round =>
        obtain ⟨k, hup, rfl⟩ := hrel
        have hup' := Lib.hid hup
        clear hup
        by_cases hk : k < zs.length
        · obtain ⟨z, hzk⟩ : ∃ z, z = zs.getD k ByteArray.empty := ⟨_, rfl⟩
          have hcell : w1.cell? ⟨b, o + k, none⟩ = some (.string z) := by rw [hzk]; exact g4'.out k hk
          have hszz : z.size ≤ 80 := by rw [hzk]; exact hsz'.out _ (getD_mem hk)
          have hzk' := Lib.hid hzk
          clear hzk
          go_wp2_with (go_at_call 107; refine (refcomponent_any _ _ (by omega)).mono ?_; rintro e w' ⟨rfl, rfl⟩)
          · have hf : compB z = false := by simpa using (by assumption : (!compB z) = true)
            go_ret
            refine ⟨ret_int (gErr_name h1 ?_).symm, hb'.out⟩
            rw [← hzs'.out, List.any_eq_true]
            exact ⟨z, by rw [hzk'.out]; exact getD_mem hk, by rw [hf]; rfl⟩
          · have hf : compB z = true := by simpa using (by assumption : (!compB z) = false)
            exact ⟨⟨k + 1, hup'.out.next hk (by rw [← hzk'.out]; exact hf), by go_num⟩, by simp [intOf]; omega⟩
        · have hall : ∀ z ∈ zs, compB z = true := fun z hz => by
            obtain ⟨j, hj, rfl⟩ := List.mem_iff_getElem.1 hz
            have h : compB (zs.getD j ByteArray.empty) = true := hup'.out.2 j (by omega)
            rwa [List.getD_eq_getElem?_getD, List.getElem?_eq_getElem hj] at h
          have hall' := Lib.hid hall
          clear hall hup'
          go_wp2_with fail
          all_goals
            have hn : ((partsB 46 s).any fun z => !compB z) = false := by
              rw [← hzs'.out, List.any_eq_false]; intro z hz; rw [hall'.out z hz]; decide
            go_ret
            refine ⟨ret_int ?_, hb'.out⟩
            first
              | exact (gErr_limit h1 hn (by rw [← hzs'.out]; omega)).symm
              | exact (gErr_ok h1 hn (by rw [← hzs'.out]; omega)).symm

/-- no string before place j of the first k ones is the one at k -/
theorem contains_upto {zs : List ByteArray} {k : Nat} {z : ByteArray} (h : ∀ j, j < k → zs.getD j ByteArray.empty ≠ z) (hk : k ≤ zs.length) : Lib.containsS (zs.take k) z = false := by
  rw [← Bool.not_eq_true, Lib.containsS_iff]
  intro hm
  obtain ⟨j, hj⟩ := List.mem_iff_getElem?.1 hm
  rw [List.getElem?_take] at hj
  split at hj
  · rename_i hjk
    exact h j hjk (by rw [List.getD_eq_getElem?_getD, hj]; rfl)
  · cases hj
theorem contains_at {zs : List ByteArray} {k j : Nat} {z : ByteArray} (hj : j < k) (hk : k ≤ zs.length) (h : zs.getD j ByteArray.empty = z) : Lib.containsS (zs.take k) z = true := by
  rw [Lib.containsS_iff]
  refine List.mem_iff_getElem?.2 ⟨j, ?_⟩
  rw [List.getElem?_take, if_pos hj, List.getElem?_eq_getElem (by omega)]
  rw [← h, List.getD_eq_getElem?_getD, List.getElem?_eq_getElem (by omega : j < zs.length)]; rfl
theorem bytes_beq_true {a b : ByteArray} (h : (a.toList == b.toList) = true) : a = b := by
  have h2 : a.toList = b.toList := eq_of_beq h
  rw [ByteArray.toList_eq, ByteArray.toList_eq] at h2
  rw [← mkS_data a, ← mkS_data b, h2]
theorem bytes_beq_false {a b : ByteArray} (h : (a.toList == b.toList) = false) : a ≠ b := by
  intro e; subst e; simp at h

end Go.Proofs.YtnniijnfkbkdcaaGreatDoor
