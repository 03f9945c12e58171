/- The bytes of names, and the contracts of the functions that look at single bytes: msgid.permitted, misplaced and Site, the reference's Site, groupname's permitted, date's Valid and Day. -/
import Derived.Test.YtlemadbmlnjhpaaGreatDoorProg
import Derived.WalkKit
import Derived.WalkLawsBesides
import Derived.WalkSpells
import Derived.Below
import Derived.Lib.Hide
import Derived.Outline
import Derived.BigQuiet
import Derived.Deep.QuietTactic
import Derived.IntWalk
import Derived.Lib.Strings
namespace Go.Proofs.YtlemadbmlnjhpaaGreatDoor
open Go Go.RowKit
set_option linter.unusedSimpArgs false
set_option linter.unusedVariables false

def lowN (n : Nat) : Bool := decide (97 ≤ n) && decide (n ≤ 122)
def digN (n : Nat) : Bool := decide (48 ≤ n) && decide (n ≤ 57)
def permN (n : Nat) : Bool := lowN n || digN n || n == 45 || n == 43 || n == 95
def siteN (n : Nat) : Bool := lowN n || digN n || n == 45 || n == 46
theorem ret_bool {a b : Bool} (h : a = b) : Ending.returned (.bool a) = .returned (.bool b) := by rw [h]
theorem ret_int {k : IntKind} {a b : Int} (h : a = b) : Ending.returned (.int k a) = .returned (.int k b) := by rw [h]
theorem ret_pair {k : IntKind} {v : Value} {a b : Int} (h : a = b) : Ending.returned (.tuple #[v, .int k a]) = .returned (.tuple #[v, .int k b]) := by rw [h]
def bt (s : ByteArray) (k : Nat) : Nat := if h : k < s.size then s[k].toNat else 0
theorem bt_at (s : ByteArray) (k : Nat) (h : k < s.size) : s[k].toNat = bt s k := by simp [bt, h]
theorem bt_lt (s : ByteArray) (k : Nat) : bt s k < 256 := by
  unfold bt; split
  · exact (s[k]).toNat_lt
  · omega
theorem empty_true {s : ByteArray} (h : s.size = 0) : s.toList.isEmpty = true := by
  rw [ByteArray.toList_eq]; cases hl : s.data.toList with
  | nil => rfl
  | cons a l => rw [Lib.size_eq, hl] at h; cases h
theorem empty_false {s : ByteArray} (h : s.size ≠ 0) : s.toList.isEmpty = false := by
  rw [ByteArray.toList_eq]; cases hl : s.data.toList with
  | nil => exact absurd (by rw [Lib.size_eq, hl]; rfl) h
  | cons a l => rfl

set_option maxHeartbeats 400000 in
theorem permitted_any (r : Nat) (w : World) :
    Calls Tryz.prog 151 #[.int .i32 (r : Int)] w fun e w' => e = .returned (.bool (permN r)) ∧ w = w' := by
  go_enter Tryz.func151, Tryz.ntmps151
  go_wp2
  all_goals (go_ret; refine ⟨ret_bool ?_, rfl⟩; rw [Bool.eq_iff_iff]; simp [permN, lowN, digN]; omega)

set_option maxHeartbeats 400000 in
theorem sitechar_any (r : Nat) (w : World) :
    Calls Tryz.prog 80 #[.int .u8 (r : Int)] w fun e w' => e = .returned (.bool (siteN r)) ∧ w = w' := by
  go_enter Tryz.func80, Tryz.ntmps80
  go_wp2
  all_goals (go_ret; refine ⟨ret_bool ?_, rfl⟩; rw [Bool.eq_iff_iff]; simp [siteN, lowN, digN]; omega)

theorem siteN_iff (n : Nat) : siteN n = true ↔ (97 ≤ n ∧ n ≤ 122) ∨ (48 ≤ n ∧ n ≤ 57) ∨ n = 45 ∨ n = 46 := by
  simp [siteN, lowN, digN]; omega
theorem siteN_not (n : Nat) : siteN n = false ↔ ¬ ((97 ≤ n ∧ n ≤ 122) ∨ (48 ≤ n ∧ n ≤ 57) ∨ n = 45 ∨ n = 46) := by
  rw [← siteN_iff]; simp

/-- a byte of a site's name at a wrong place -/
def mispB (s : ByteArray) (i : Nat) : Bool :=
  if i = 0 then !lowN (bt s 0) else if bt s i = 46 ∧ bt s (i - 1) = 46 then true else decide (i + 1 = s.size ∧ (bt s i = 45 ∨ bt s i = 46))

theorem mispB_zero (s : ByteArray) : mispB s 0 = true ↔ ¬ (97 ≤ bt s 0 ∧ bt s 0 ≤ 122) := by
  simp [mispB, lowN]; omega
theorem mispB_zero' (s : ByteArray) : mispB s 0 = false ↔ (97 ≤ bt s 0 ∧ bt s 0 ≤ 122) := by
  simp [mispB, lowN]
theorem mispB_pos (s : ByteArray) {m : Nat} (h : 0 < m) : mispB s m = true ↔ (bt s m = 46 ∧ bt s (m - 1) = 46) ∨ (m + 1 = s.size ∧ (bt s m = 45 ∨ bt s m = 46)) := by
  unfold mispB; rw [if_neg (by omega)]; split <;> simp <;> omega
theorem mispB_pos' (s : ByteArray) {m : Nat} (h : 0 < m) : mispB s m = false ↔ ¬ ((bt s m = 46 ∧ bt s (m - 1) = 46) ∨ (m + 1 = s.size ∧ (bt s m = 45 ∨ bt s m = 46))) := by
  rw [← mispB_pos s h]; simp

set_option maxHeartbeats 400000 in
theorem misplaced_any (s : ByteArray) (i : Nat) (w : World) (hs : s.size ≤ 1000) (h : i < s.size) :
    Calls Tryz.prog 81 #[.string s, .int .i64 (i : Int)] w fun e w' => e = .returned (.bool (mispB s i)) ∧ w = w' := by
  by_cases h0 : i = 0
  · subst h0
    go_enter Tryz.func81, Tryz.ntmps81
    go_wp2
    all_goals
      go_ret
      refine ⟨ret_bool ?_, rfl⟩
      simp only [bt_at] at *
      rw [Bool.eq_iff_iff]; simp [mispB, lowN]; omega
  · have h1 : 0 < i := by omega
    go_enter Tryz.func81, Tryz.ntmps81
    go_wp2
    all_goals
      go_ret
      refine ⟨ret_bool ?_, rfl⟩
      simp only [bt_at, beq_iff_eq, beq_eq_false_iff_ne] at *
      rw [Bool.eq_iff_iff]; simp [mispB, h0]; omega

/-- the error of a site's name -/
def siteErr (s : ByteArray) : Int :=
  if s.size = 0 then 4 else if 30 < s.size then 5 else if ∃ k, k < s.size ∧ siteN (bt s k) = false then 6 else if ∃ k, k < s.size ∧ mispB s k = true then 12 else 0
theorem siteErr_none {s : ByteArray} (h0 : s.size = 0) : siteErr s = 4 := by
  unfold siteErr; rw [if_pos h0]
theorem siteErr_long {s : ByteArray} (h0 : ¬ s.size = 0) (h1 : 30 < s.size) : siteErr s = 5 := by
  unfold siteErr; rw [if_neg h0, if_pos h1]
theorem siteErr_char {s : ByteArray} (h0 : ¬ s.size = 0) (h1 : s.size ≤ 30) {k : Nat} (hk : k < s.size) (hc : siteN (bt s k) = false) : siteErr s = 6 := by
  unfold siteErr; rw [if_neg h0, if_neg (by omega), if_pos ⟨k, hk, hc⟩]
theorem siteErr_mis {s : ByteArray} (h0 : ¬ s.size = 0) (h1 : s.size ≤ 30) (hc : ∀ j, j < s.size → siteN (bt s j) = true) {k : Nat} (hk : k < s.size) (hm : mispB s k = true) : siteErr s = 12 := by
  unfold siteErr; rw [if_neg h0, if_neg (by omega), if_neg (by rintro ⟨j, hj, h⟩; rw [hc j hj] at h; cases h), if_pos ⟨k, hk, hm⟩]
theorem siteErr_ok {s : ByteArray} (h0 : ¬ s.size = 0) (h1 : s.size ≤ 30) (hc : ∀ j, j < s.size → siteN (bt s j) = true) (hm : ∀ j, j < s.size → mispB s j = false) : siteErr s = 0 := by
  unfold siteErr; rw [if_neg h0, if_neg (by omega), if_neg (by rintro ⟨j, hj, h⟩; rw [hc j hj] at h; cases h), if_neg (by rintro ⟨j, hj, h⟩; rw [hm j hj] at h; cases h)]
theorem siteErr_eq {s t : ByteArray} (h : s = t) : siteErr s = siteErr t := by rw [h]

def SomeOff (err : Int) (w : World) (e : Ending) (w' : World) : Prop := (∃ o : Int, e = .returned (.tuple #[.int .i64 o, .int .i64 err])) ∧ w = w'
def Upto (n k : Nat) (p : Nat → Prop) : Prop := k ≤ n ∧ ∀ j, j < k → p j
theorem Upto.zero (n : Nat) (p : Nat → Prop) : Upto n 0 p := ⟨Nat.zero_le _, fun _ h => by omega⟩
theorem Upto.next {n k : Nat} {p : Nat → Prop} (h : Upto n k p) (hk : k < n) (hp : p k) : Upto n (k + 1) p :=
  ⟨hk, fun j hj => by
    by_cases e : j = k
    · subst e; exact hp
    · exact h.2 j (by omega)⟩

set_option maxHeartbeats 800000 in
theorem site_any (s : ByteArray) (w : World) (hs : s.size ≤ 9223372036854775807) :
    Calls Tryz.prog 59 #[.string s] w (SomeOff (siteErr s) w) := by
  by_cases h0 : s.size = 0
  · have he := empty_true h0
    clear hs
    go_enter Tryz.func59, Tryz.ntmps59
    go_wp2_with fail
    go_ret2
    exact ⟨⟨0, ret_pair (siteErr_none h0).symm⟩, rfl⟩
  · have he := empty_false h0
    by_cases h1 : 30 < s.size
    · go_enter Tryz.func59, Tryz.ntmps59
      go_wp2_with fail
      go_ret2
      exact ⟨⟨30, ret_pair (siteErr_long h0 h1).symm⟩, rfl⟩
    · have h1' : s.size ≤ 30 := by omega
      clear h1
      have hpos : 0 < s.size := by omega
      go_enter Tryz.func59, Tryz.ntmps59
      go_wp2_with fail
      go_loop [4, 15] (fun i c => ∃ k : Nat, Upto s.size k (fun j => siteN (bt s j) = true) ∧ c = .int .i64 k) (fun _ c => s.size - (intOf c).toNat)
      case atStart => exact ⟨0, Upto.zero _ _, rfl⟩
      case round =>
        obtain ⟨k, hup, rfl⟩ := hrel
        have hup' := Lib.hid hup
        clear hup
        by_cases hk : k < s.size
        · have hb := bt_at s k hk
          have hb' := Lib.hid hb
          clear hb
          go_wp2_with (go_at_call 80; refine (sitechar_any _ _).mono ?_; rintro e w' ⟨rfl, rfl⟩)
          · have hc : (!siteN s[k].toNat) = true := by assumption
            go_ret2
            exact ⟨⟨k, ret_pair (siteErr_char h0 h1' hk (by rw [← hb'.out]; simpa using hc)).symm⟩, rfl⟩
          · have hc : (!siteN s[k].toNat) = false := by assumption
            exact ⟨⟨k + 1, hup'.out.next hk (by rw [← hb'.out]; simpa using hc), by go_num⟩, by simp [intOf]; omega⟩
        · have hall := Lib.hid (fun j hj => hup'.out.2 j (by omega) : ∀ j, j < s.size → siteN (bt s j) = true)
          clear hup'
          go_wp2_with fail
          go_loop [27] (fun c => ∃ k : Nat, Upto s.size k (fun j => mispB s j = false) ∧ c = .int .i64 k) (fun c => s.size - (intOf c).toNat)
          case atStart => exact ⟨0, Upto.zero _ _, rfl⟩
          case round =>
            obtain ⟨m, hum, rfl⟩ := hrel
            have hum' := Lib.hid hum
            clear hum
            by_cases hm : m < s.size
            · go_wp2_with (go_at_call 81; refine (misplaced_any s m _ (by omega) hm).mono ?_; rintro e w' ⟨rfl, rfl⟩)
              · have hc : mispB s m = true := by assumption
                go_ret2
                exact ⟨⟨m, ret_pair (siteErr_mis h0 h1' hall.out hm hc).symm⟩, rfl⟩
              · have hc : mispB s m = false := by assumption
                exact ⟨⟨m + 1, hum'.out.next hm hc, by go_num⟩, by simp [intOf]; omega⟩
            · have hmall := Lib.hid (fun j hj => hum'.out.2 j (by omega) : ∀ j, j < s.size → mispB s j = false)
              clear hum'
              go_wp2_with fail
              go_ret2
              exact ⟨⟨0, ret_pair (siteErr_ok h0 h1' hall.out hmall.out).symm⟩, rfl⟩

set_option maxHeartbeats 1600000 in
theorem refsite_any (s : ByteArray) (w : World) (hs : s.size ≤ 9223372036854775807) :
    Calls Tryz.prog 57 #[.string s] w (SomeOff (siteErr s) w) := by
  by_cases h0 : s.size = 0
  · have he := empty_true h0
    clear hs
    go_enter Tryz.func57, Tryz.ntmps57
    go_wp2_with fail
    go_ret2
    exact ⟨⟨0, ret_pair (siteErr_none h0).symm⟩, rfl⟩
  · have he := empty_false h0
    by_cases h1 : 30 < s.size
    · go_enter Tryz.func57, Tryz.ntmps57
      go_wp2_with fail
      go_ret2
      exact ⟨⟨30, ret_pair (siteErr_long h0 h1).symm⟩, rfl⟩
    · have h1' : s.size ≤ 30 := by omega
      clear h1
      have hpos : 0 < s.size := by omega
      go_enter Tryz.func57, Tryz.ntmps57
      go_wp2_with fail
      go_loop [4] (fun c => ∃ k : Nat, Upto s.size k (fun j => siteN (bt s j) = true) ∧ c = .int .i64 k) (fun c => s.size - (intOf c).toNat)
      case atStart => exact ⟨0, Upto.zero _ _, rfl⟩
      case round =>
        obtain ⟨k, hup, rfl⟩ := hrel
        have hup' := Lib.hid hup
        clear hup
        by_cases hk : k < s.size
        · have hb := bt_at s k hk
          have hb' := Lib.hid hb
          clear hb
          go_wp2_with fail
          all_goals first
            | (go_ret2
               refine ⟨⟨k, ret_pair (siteErr_char h0 h1' hk ?_).symm⟩, rfl⟩
               rw [← hb'.out, siteN_not]
               simp only [Bool.not_eq_true', Bool.not_eq_false', decide_eq_true_eq, decide_eq_false_iff_not, beq_iff_eq, beq_eq_false_iff_ne, ne_eq] at *
               omega)
            | (refine ⟨⟨k + 1, hup'.out.next hk ?_, by go_num⟩, by simp [intOf]; omega⟩
               rw [← hb'.out, siteN_iff]
               simp only [Bool.not_eq_true', Bool.not_eq_false', decide_eq_true_eq, decide_eq_false_iff_not, beq_iff_eq, beq_eq_false_iff_ne, ne_eq] at *
               omega)
        · have hall := Lib.hid (fun j hj => hup'.out.2 j (by omega) : ∀ j, j < s.size → siteN (bt s j) = true)
          clear hup'
          go_wp2_with fail
          go_loop [6] (fun c => ∃ k : Nat, Upto s.size k (fun j => mispB s j = false) ∧ c = .int .i64 k) (fun c => s.size - (intOf c).toNat)
          case atStart => exact ⟨0, Upto.zero _ _, rfl⟩
          case round =>
            obtain ⟨m, hum, rfl⟩ := hrel
            have hum' := Lib.hid hum
            clear hum
            by_cases hm : m < s.size
            · have hb := bt_at s m hm
              have hb' := Lib.hid hb
              clear hb
              have hl := bt_lt s m
              by_cases hm0 : m = 0
              · subst hm0
                go_wp2_with fail
                all_goals first
                  | (go_ret2
                     refine ⟨⟨_, ret_pair (siteErr_mis h0 h1' hall.out hm ?_).symm⟩, rfl⟩
                     rw [mispB_zero]
                     simp only [bt_at, Bool.not_eq_true', Bool.not_eq_false', decide_eq_true_eq, decide_eq_false_iff_not, beq_iff_eq, beq_eq_false_iff_ne, ne_eq] at *
                     omega)
                  | (refine ⟨⟨_, hum'.out.next hm ?_, congrArg (Value.int .i64) (by omega)⟩, by simp [intOf] <;> omega⟩
                     rw [mispB_zero']
                     simp only [bt_at, Bool.not_eq_true', Bool.not_eq_false', decide_eq_true_eq, decide_eq_false_iff_not, beq_iff_eq, beq_eq_false_iff_ne, ne_eq] at *
                     omega)
              · have hm1 : 0 < m := by omega
                have hb1 := Lib.hid (bt_at s (m - 1) (by omega))
                clear hm0
                go_wp2_with fail
                all_goals first
                  | (go_ret2
                     refine ⟨⟨_, ret_pair (siteErr_mis h0 h1' hall.out hm ?_).symm⟩, rfl⟩
                     rw [mispB_pos s hm1]
                     simp only [bt_at, Bool.not_eq_true', Bool.not_eq_false', decide_eq_true_eq, decide_eq_false_iff_not, beq_iff_eq, beq_eq_false_iff_ne, ne_eq] at *
                     omega)
                  | (refine ⟨⟨_, hum'.out.next hm ?_, congrArg (Value.int .i64) (by omega)⟩, by simp [intOf] <;> omega⟩
                     rw [mispB_pos' s hm1]
                     simp only [bt_at, Bool.not_eq_true', Bool.not_eq_false', decide_eq_true_eq, decide_eq_false_iff_not, beq_iff_eq, beq_eq_false_iff_ne, ne_eq] at *
                     omega)
            · have hmall := Lib.hid (fun j hj => hum'.out.2 j (by omega) : ∀ j, j < s.size → mispB s j = false)
              clear hum'
              go_wp2_with fail
              go_ret2
              exact ⟨⟨0, ret_pair (siteErr_ok h0 h1' hall.out hmall.out).symm⟩, rfl⟩
end Go.Proofs.YtlemadbmlnjhpaaGreatDoor
