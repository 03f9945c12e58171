/- The bytes of names, and the contracts of the functions that look at single bytes: msgid.permitted, misplaced and Site, the reference's Site, groupname's permitted, date's Valid and Day. -/
/- Plain laws on the parts into which a byte divides a string: the library's Split at one byte and the reference's loop give the same parts; and what a group's name is. -/
import Derived.Test.YtnniijnfkbkdcaaGreatDoorProg
import Derived.WalkKit
import Derived.WalkLawsBesides
import Derived.WalkSpells
import Derived.Below
import Derived.Lib.Hide
import Derived.Outline
import Derived.BigQuiet
import Derived.Deep.QuietTactic
import Derived.IntWalk
import Derived.Lib.Strings
import Derived.Lib.Split
import Derived.Lib.SplitLaws
import Derived.Lib.IndexBytes
import Derived.Lib.IndexLaws
namespace Go.Proofs.YtnniijnfkbkdcaaGreatDoor
open Go Go.RowKit
set_option linter.unusedSimpArgs false
set_option linter.unusedVariables false

def lowN (n : Nat) : Bool := decide (97 ≤ n) && decide (n ≤ 122)
def digN (n : Nat) : Bool := decide (48 ≤ n) && decide (n ≤ 57)
def permN (n : Nat) : Bool := lowN n || digN n || n == 45 || n == 43 || n == 95
def siteN (n : Nat) : Bool := lowN n || digN n || n == 45 || n == 46
theorem ret_bool {a b : Bool} (h : a = b) : Ending.returned (.bool a) = .returned (.bool b) := by rw [h]
theorem ret_int {k : IntKind} {a b : Int} (h : a = b) : Ending.returned (.int k a) = .returned (.int k b) := by rw [h]
theorem ret_pair {k : IntKind} {v : Value} {a b : Int} (h : a = b) : Ending.returned (.tuple #[v, .int k a]) = .returned (.tuple #[v, .int k b]) := by rw [h]
def bt (s : ByteArray) (k : Nat) : Nat := if h : k < s.size then s[k].toNat else 0
theorem bt_at (s : ByteArray) (k : Nat) (h : k < s.size) : s[k].toNat = bt s k := by simp [bt, h]
theorem bt_lt (s : ByteArray) (k : Nat) : bt s k < 256 := by
  unfold bt; split
  · exact (s[k]).toNat_lt
  · omega
theorem empty_true {s : ByteArray} (h : s.size = 0) : s.toList.isEmpty = true := by
  rw [ByteArray.toList_eq]; cases hl : s.data.toList with
  | nil => rfl
  | cons a l => rw [Lib.size_eq, hl] at h; cases h
theorem empty_false {s : ByteArray} (h : s.size ≠ 0) : s.toList.isEmpty = false := by
  rw [ByteArray.toList_eq]; cases hl : s.data.toList with
  | nil => exact absurd (by rw [Lib.size_eq, hl]; rfl) h
  | cons a l => rfl

set_option maxHeartbeats 400000 in
theorem permitted_any (r : Nat) (w : World) :
    Calls Tryz.prog 139 #[.int .i32 (r : Int)] w fun e w' => e = .returned (.bool (permN r)) ∧ w = w' := by
  go_enter Tryz.func139, Tryz.ntmps139
  go_wp2
  all_goals (go_ret; refine ⟨ret_bool ?_, rfl⟩; rw [Bool.eq_iff_iff]; simp [permN, lowN, digN]; omega)

theorem siteN_iff (n : Nat) : siteN n = true ↔ (97 ≤ n ∧ n ≤ 122) ∨ (48 ≤ n ∧ n ≤ 57) ∨ n = 45 ∨ n = 46 := by
  simp [siteN, lowN, digN]; omega
theorem siteN_not (n : Nat) : siteN n = false ↔ ¬ ((97 ≤ n ∧ n ≤ 122) ∨ (48 ≤ n ∧ n ≤ 57) ∨ n = 45 ∨ n = 46) := by
  rw [← siteN_iff]; simp

/-- a byte of a site's name at a wrong place -/
def mispB (s : ByteArray) (i : Nat) : Bool :=
  if i = 0 then !lowN (bt s 0) else if bt s i = 46 ∧ bt s (i - 1) = 46 then true else decide (i + 1 = s.size ∧ (bt s i = 45 ∨ bt s i = 46))

theorem mispB_zero (s : ByteArray) : mispB s 0 = true ↔ ¬ (97 ≤ bt s 0 ∧ bt s 0 ≤ 122) := by
  simp [mispB, lowN]; omega
theorem mispB_zero' (s : ByteArray) : mispB s 0 = false ↔ (97 ≤ bt s 0 ∧ bt s 0 ≤ 122) := by
  simp [mispB, lowN]
theorem mispB_pos (s : ByteArray) {m : Nat} (h : 0 < m) : mispB s m = true ↔ (bt s m = 46 ∧ bt s (m - 1) = 46) ∨ (m + 1 = s.size ∧ (bt s m = 45 ∨ bt s m = 46)) := by
  unfold mispB; rw [if_neg (by omega)]; split <;> simp <;> omega
theorem mispB_pos' (s : ByteArray) {m : Nat} (h : 0 < m) : mispB s m = false ↔ ¬ ((bt s m = 46 ∧ bt s (m - 1) = 46) ∨ (m + 1 = s.size ∧ (bt s m = 45 ∨ bt s m = 46))) := by
  rw [← mispB_pos s h]; simp

def siteErr (s : ByteArray) : Int :=
  if s.size = 0 then 4 else if 30 < s.size then 5 else if ∃ k, k < s.size ∧ siteN (bt s k) = false then 6 else if ∃ k, k < s.size ∧ mispB s k = true then 12 else 0
theorem siteErr_none {s : ByteArray} (h0 : s.size = 0) : siteErr s = 4 := by
  unfold siteErr; rw [if_pos h0]
theorem siteErr_long {s : ByteArray} (h0 : ¬ s.size = 0) (h1 : 30 < s.size) : siteErr s = 5 := by
  unfold siteErr; rw [if_neg h0, if_pos h1]
theorem siteErr_char {s : ByteArray} (h0 : ¬ s.size = 0) (h1 : s.size ≤ 30) {k : Nat} (hk : k < s.size) (hc : siteN (bt s k) = false) : siteErr s = 6 := by
  unfold siteErr; rw [if_neg h0, if_neg (by omega), if_pos ⟨k, hk, hc⟩]
theorem siteErr_mis {s : ByteArray} (h0 : ¬ s.size = 0) (h1 : s.size ≤ 30) (hc : ∀ j, j < s.size → siteN (bt s j) = true) {k : Nat} (hk : k < s.size) (hm : mispB s k = true) : siteErr s = 12 := by
  unfold siteErr; rw [if_neg h0, if_neg (by omega), if_neg (by rintro ⟨j, hj, h⟩; rw [hc j hj] at h; cases h), if_pos ⟨k, hk, hm⟩]
theorem siteErr_ok {s : ByteArray} (h0 : ¬ s.size = 0) (h1 : s.size ≤ 30) (hc : ∀ j, j < s.size → siteN (bt s j) = true) (hm : ∀ j, j < s.size → mispB s j = false) : siteErr s = 0 := by
  unfold siteErr; rw [if_neg h0, if_neg (by omega), if_neg (by rintro ⟨j, hj, h⟩; rw [hc j hj] at h; cases h), if_neg (by rintro ⟨j, hj, h⟩; rw [hm j hj] at h; cases h)]
theorem siteErr_eq {s t : ByteArray} (h : s = t) : siteErr s = siteErr t := by rw [h]

def SomeOff (err : Int) (w : World) (e : Ending) (w' : World) : Prop := (∃ o : Int, e = .returned (.tuple #[.int .i64 o, .int .i64 err])) ∧ w = w'
def Upto (n k : Nat) (p : Nat → Prop) : Prop := k ≤ n ∧ ∀ j, j < k → p j
theorem Upto.zero (n : Nat) (p : Nat → Prop) : Upto n 0 p := ⟨Nat.zero_le _, fun _ h => by omega⟩
theorem Upto.next {n k : Nat} {p : Nat → Prop} (h : Upto n k p) (hk : k < n) (hp : p k) : Upto n (k + 1) p :=
  ⟨hk, fun j hj => by
    by_cases e : j = k
    · subst e; exact hp
    · exact h.2 j (by omega)⟩

end Go.Proofs.YtnniijnfkbkdcaaGreatDoor
namespace Go.Proofs.YtnniijnfkbkdcaaGreatDoor
open Go Go.RowKit
set_option linter.unusedSimpArgs false
set_option linter.unusedVariables false

def stepP (c : UInt8) (r : List (List UInt8) × List UInt8) (b : UInt8) : List (List UInt8) × List UInt8 :=
  if b = c then (r.1 ++ [r.2], []) else (r.1, r.2 ++ [b])
def foldP (c : UInt8) (l : List UInt8) : List (List UInt8) × List UInt8 := l.foldl (stepP c) ([], [])
/-- the parts into which the byte c divides l -/
def partsL (c : UInt8) (l : List UInt8) : List (List UInt8) := (foldP c l).1 ++ [(foldP c l).2]
theorem foldP_snoc (c : UInt8) (l : List UInt8) (b : UInt8) : foldP c (l ++ [b]) = stepP c (foldP c l) b := by
  simp [foldP, List.foldl_append]
theorem foldl_stepP (c : UInt8) : ∀ (l : List UInt8) (d : List (List UInt8)) (p : List UInt8),
    l.foldl (stepP c) (d, p) = (d ++ (l.foldl (stepP c) ([], p)).1, (l.foldl (stepP c) ([], p)).2)
  | [], d, p => by simp
  | b :: l, d, p => by
    simp only [List.foldl_cons, stepP]
    split
    · rw [foldl_stepP c l (d ++ [p]) [], foldl_stepP c l ([] ++ [p]) []]; simp
    · exact foldl_stepP c l d (p ++ [b])
theorem foldl_none (c : UInt8) : ∀ (l : List UInt8) (d : List (List UInt8)) (p : List UInt8), (∀ b ∈ l, b ≠ c) → l.foldl (stepP c) (d, p) = (d, p ++ l)
  | [], d, p, _ => by simp
  | b :: l, d, p, h => by
    simp only [List.foldl_cons, stepP, if_neg (h b (by simp))]
    rw [foldl_none c l d (p ++ [b]) (fun x hx => h x (by simp [hx]))]; simp
theorem partsL_none (c : UInt8) (l : List UInt8) (h : ∀ b ∈ l, b ≠ c) : partsL c l = [l] := by
  unfold partsL foldP; rw [foldl_none c l [] [] h]; simp
theorem partsL_hit (c : UInt8) (a b : List UInt8) (h : ∀ x ∈ a, x ≠ c) : partsL c (a ++ c :: b) = a :: partsL c b := by
  unfold partsL foldP
  rw [List.foldl_append, foldl_none c a [] [] h, List.foldl_cons]
  simp only [stepP, if_true, List.nil_append]
  rw [foldl_stepP c b [a] []]
  simp
theorem splitK_one (c : UInt8) : ∀ (k : Nat) (l : List UInt8), Lib.count l [c] = k → Lib.splitK [c] 0 k l = partsL c l
  | 0, l, h => by
    rw [Lib.count_one] at h
    rw [partsL_none c l (fun b hb e => by subst e; have := List.count_pos_iff.2 hb; omega)]; rfl
  | k + 1, l, h => by
    have hne : Lib.indexByte l c ≠ -1 := fun e => by
      have hn := Lib.indexByte_none e
      rw [Lib.count_one] at h
      have hm : c ∈ l := List.count_pos_iff.1 (by omega)
      obtain ⟨i, hi⟩ := List.mem_iff_getElem?.1 hm
      exact hn i hi
    have hge := Lib.indexByte_ge l c
    obtain ⟨i, hi⟩ : ∃ i : Nat, Lib.indexByte l c = i := ⟨(Lib.indexByte l c).toNat, by omega⟩
    obtain ⟨hat, hbefore⟩ := Lib.indexByte_some hi
    have hil : i < l.length := (List.getElem?_eq_some_iff.1 hat).1
    have hx : Lib.index l [c] = i := by rw [Lib.index_one]; exact hi
    have hsplit : l = l.take i ++ c :: l.drop (i + 1) := by
      conv => lhs; rw [← List.take_append_drop i l]
      congr 1
      rw [List.drop_eq_getElem_cons hil]
      have := List.getElem?_eq_getElem hil
      rw [hat] at this
      rw [Option.some.inj this]
    have hcnt := Lib.count_hit (by simp) hx
    rw [h] at hcnt
    have hd : Lib.count (l.drop (i + 1)) [c] = k := by simpa using (by omega : Lib.count (l.drop (i + [c].length)) [c] = k)
    unfold Lib.splitK
    rw [if_neg (by rw [hx]; simp), hx]
    have e1 : ((i : Int).toNat + 0) = i := by omega
    have e2 : ((i : Int).toNat + [c].length) = i + 1 := by simp
    rw [e1, e2, splitK_one c k _ hd]
    conv => rhs; rw [hsplit]
    rw [partsL_hit c _ _ (fun x hxm e => by
      subst e
      obtain ⟨j, hj⟩ := List.mem_iff_getElem?.1 hxm
      rw [List.getElem?_take] at hj
      split at hj
      · rename_i hjlt; exact hbefore j hjlt hj
      · cases hj)]

/-- a list of bytes as a string -/
def mkS (l : List UInt8) : ByteArray := ⟨l.toArray⟩
theorem mkS_data (s : ByteArray) : mkS s.data.toList = s := by cases s; rfl
theorem mkS_toList (l : List UInt8) : (mkS l).data.toList = l := rfl
theorem mkS_inj {a b : List UInt8} (h : mkS a = mkS b) : a = b := by have := congrArg (fun s => s.data.toList) h; simpa [mkS] using this
def partsB (c : UInt8) (s : ByteArray) : List ByteArray := (partsL c s.data.toList).map mkS
theorem splitB_one (c : UInt8) (s : ByteArray) : Lib.splitB ⟨#[c]⟩ 0 (Lib.countB s ⟨#[c]⟩) s = partsB c s := by
  have h := Lib.splitB_data ⟨#[c]⟩ 0 (Lib.countB s ⟨#[c]⟩) s
  have h2 := splitK_one c (Lib.countB s ⟨#[c]⟩) s.data.toList rfl
  have h3 : (Lib.splitB ⟨#[c]⟩ 0 (Lib.countB s ⟨#[c]⟩) s).map (·.data.toList) = partsL c s.data.toList := h.trans h2
  unfold partsB
  rw [← h3, List.map_map]
  conv => lhs; rw [← List.map_id (Lib.splitB ⟨#[c]⟩ 0 (Lib.countB s ⟨#[c]⟩) s)]
  exact List.map_congr_left fun x _ => (mkS_data x).symm
theorem partsB_length (c : UInt8) (s : ByteArray) : (partsB c s).length = Lib.countB s ⟨#[c]⟩ + 1 := by
  rw [← splitB_one]; exact Lib.splitB_all ⟨#[c]⟩ (Nat.le_refl 1) 0 _ s rfl
theorem foldP_le (c : UInt8) (l : List UInt8) : (foldP c l).1.length ≤ l.length ∧ (foldP c l).2.length ≤ l.length ∧ ∀ p ∈ (foldP c l).1, p.length ≤ l.length := by
  suffices h : ∀ r : List UInt8, (foldP c r.reverse).1.length ≤ r.reverse.length ∧ (foldP c r.reverse).2.length ≤ r.reverse.length ∧ ∀ p ∈ (foldP c r.reverse).1, p.length ≤ r.reverse.length by simpa using h l.reverse
  intro r
  induction r with
  | nil => simp [foldP]
  | cons b r ih =>
    rw [List.reverse_cons]
    generalize r.reverse = l at *
    rw [foldP_snoc]
    unfold stepP
    obtain ⟨h1, h2, h3⟩ := ih
    split
    · refine ⟨by simp; omega, by simp, fun p hp => ?_⟩
      simp only [List.mem_append, List.mem_singleton] at hp
      rcases hp with hp | rfl
      · have := h3 p hp; simp; omega
      · simp; omega
    · refine ⟨by simp; omega, by simp; omega, fun p hp => ?_⟩
      have := h3 p hp; simp; omega
theorem partsL_length_le (c : UInt8) (l : List UInt8) : (partsL c l).length ≤ l.length + 1 := by
  have := (foldP_le c l).1; simp [partsL]; omega

/-- a component of a name -/
def compB (s : ByteArray) : Bool := decide (0 < s.size) && decide (s.size ≤ 20) && lowN (bt s 0) && (List.range s.size).all fun k => permN (bt s k)
def gErr (s : ByteArray) : Int :=
  if 80 < s.size then 5 else if (partsB 46 s).any (fun x => !compB x) then 12 else if 10 < (partsB 46 s).length then 9 else 0
theorem all_range {n : Nat} {p : Nat → Bool} (h : ∀ k, k < n → p k = true) : (List.range n).all p = true := by
  rw [List.all_eq_true]; intro k hk; exact h k (List.mem_range.1 hk)
theorem not_all_range {n : Nat} {p : Nat → Bool} {k : Nat} (hk : k < n) (h : p k = false) : (List.range n).all p = false := by
  rw [List.all_eq_false]; exact ⟨k, List.mem_range.2 hk, by simp [h]⟩
theorem compB_true {s : ByteArray} (h0 : 0 < s.size) (h1 : s.size ≤ 20) (h2 : lowN (bt s 0) = true) (h3 : ∀ k, k < s.size → permN (bt s k) = true) : compB s = true := by
  simp [compB, h0, h1, h2]; intro k hk; exact h3 k hk
theorem compB_bad {s : ByteArray} {k : Nat} (hk : k < s.size) (h : permN (bt s k) = false) : compB s = false := by
  simp [compB, not_all_range (p := fun k => permN (bt s k)) hk h]
theorem lowN_perm {n : Nat} (h : lowN n = true) : permN n = true := by simp [permN, h]
theorem permN_iff (n : Nat) : permN n = true ↔ (97 ≤ n ∧ n ≤ 122) ∨ (48 ≤ n ∧ n ≤ 57) ∨ n = 45 ∨ n = 43 ∨ n = 95 := by
  simp [permN, lowN, digN]; omega
theorem permN_not (n : Nat) : permN n = false ↔ ¬ ((97 ≤ n ∧ n ≤ 122) ∨ (48 ≤ n ∧ n ≤ 57) ∨ n = 45 ∨ n = 43 ∨ n = 95) := by
  rw [← permN_iff]; simp
theorem lowN_iff (n : Nat) : lowN n = true ↔ 97 ≤ n ∧ n ≤ 122 := by simp [lowN]
theorem lowN_not (n : Nat) : lowN n = false ↔ ¬ (97 ≤ n ∧ n ≤ 122) := by rw [← lowN_iff]; simp

end Go.Proofs.YtnniijnfkbkdcaaGreatDoor
