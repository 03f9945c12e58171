/- The contracts of overview's within, text, references (nothing listed), checks, Check. -/
import Derived.Test.YtnniijnfkbkdcaaGreatDoorOA
namespace Go.Proofs.YtnniijnfkbkdcaaGreatDoor
open Go Go.RowKit Go.Proofs
set_option linter.unusedSimpArgs false
set_option linter.unusedVariables false

def inErr (n lo hi e : Int) : Int := if n < lo ∨ hi < n then e else 0
theorem within_any (n lo hi e : Int) (w : World) :
    Calls Tryz.prog 118 #[.int .i64 n, .int .i64 lo, .int .i64 hi, .int .i64 e] w fun r w' => r = .returned (.int .i64 (inErr n lo hi e)) ∧ w = w' := by
  go_enter Tryz.func118, Tryz.ntmps118
  go_wp2_with fail
  all_goals
    go_ret
    refine ⟨ret_int ?_, rfl⟩
    unfold inErr
    first | (rw [if_pos (by omega)]) | (rw [if_neg (by omega)])
def txtBad (n : Nat) : Bool := decide (n < 32) || n == 127
def txtErr (s : ByteArray) (most : Int) : Int := if most < s.size then 5 else if (List.range s.size).all (fun k => !txtBad (bt s k)) then 0 else 6
theorem txtErr_long {s : ByteArray} {most : Int} (h : most < s.size) : txtErr s most = 5 := if_pos h
theorem txtErr_bad {s : ByteArray} {most : Int} (h : ¬ most < s.size) {k : Nat} (hk : k < s.size) (hb : txtBad (bt s k) = true) : txtErr s most = 6 := by
  rw [txtErr, if_neg h, not_all_range hk (by simp [hb])]; rfl
theorem txtErr_ok {s : ByteArray} {most : Int} (h : ¬ most < s.size) (hb : ∀ k, k < s.size → txtBad (bt s k) = false) : txtErr s most = 0 := by
  rw [txtErr, if_neg h, all_range fun k hk => by simp [hb k hk]]; rfl
theorem txtBad_iff (n : Nat) : txtBad n = true ↔ n < 32 ∨ n = 127 := by simp [txtBad]
theorem txtBad_not (n : Nat) : txtBad n = false ↔ ¬ (n < 32 ∨ n = 127) := by rw [← txtBad_iff]; simp
set_option maxHeartbeats 800000 in
theorem text_any (s : ByteArray) (most : Int) (w : World) (hs : s.size ≤ 9223372036854775807) :
    Calls Tryz.prog 119 #[.string s, .int .i64 most] w fun e w' => e = .returned (.int .i64 (txtErr s most)) ∧ w = w' := by
  by_cases h0 : most < s.size
  · have hd : decide ((s.size : Int) > most) = true := decide_eq_true h0
    go_enter Tryz.func119, Tryz.ntmps119
    go_wp2_with fail
    go_ret
    exact ⟨ret_int (txtErr_long (by omega)).symm, rfl⟩
  · have hd : decide ((s.size : Int) > most) = false := decide_eq_false h0
    go_enter Tryz.func119, Tryz.ntmps119
    go_wp2_with fail
    go_loop [5, 12] (fun i c => ∃ k : Nat, Upto s.size k (fun j => txtBad (bt s j) = false) ∧ c = .int .i64 k) (fun _ c => s.size - (intOf c).toNat)
    case atStart => exact ⟨0, Upto.zero _ _, rfl⟩
    case round =>
      obtain ⟨k, hup, rfl⟩ := hrel
      have hup' := Lib.hid hup
      clear hup
      by_cases hk : k < s.size
      · have hb := bt_at s k hk
        have hb' := Lib.hid hb
        clear hb
        go_wp2_with fail
        all_goals first
          | (go_ret
             refine ⟨ret_int (txtErr_bad (by omega) hk ?_).symm, rfl⟩
             rw [← hb'.out, txtBad_iff]
             simp only [Bool.not_eq_true', Bool.not_eq_false', decide_eq_true_eq, decide_eq_false_iff_not, beq_iff_eq, beq_eq_false_iff_ne, ne_eq] at *
             omega)
          | (refine ⟨⟨k + 1, hup'.out.next hk ?_, by go_num⟩, by simp [intOf]; omega⟩
             rw [← hb'.out, txtBad_not]
             simp only [Bool.not_eq_true', Bool.not_eq_false', decide_eq_true_eq, decide_eq_false_iff_not, beq_iff_eq, beq_eq_false_iff_ne, ne_eq] at *
             omega)
      · have hall := Lib.hid (fun j hj => hup'.out.2 j (by omega) : ∀ j, j < s.size → txtBad (bt s j) = false)
        clear hup'
        go_wp2_with fail
        go_ret
        exact ⟨ret_int (txtErr_ok (by omega) hall.out).symm, rfl⟩
/-- nothing is listed: no error -/
theorem refs_none (A : Option Addr) (c : Nat) (w : World) :
    Calls Tryz.prog 120 #[.slice A 0 c] w fun e w' => e = .returned (.int .i64 0) ∧ w = w' := by
  go_enter Tryz.func120, Tryz.ntmps120
  go_wp2_with fail
  go_loopw [3, 4, 10] (fun _ _ i wr => i = .int .i64 ((0 : Nat) : Int) ∧ w = wr) (fun _ _ _ _ => 0)
  case atStart => exact ⟨rfl, rfl⟩
  case round =>
    obtain ⟨rfl, rfl⟩ := hrel
    go_wp2_with fail
    go_ret
    exact ⟨rfl, rfl⟩
end Go.Proofs.YtnniijnfkbkdcaaGreatDoor
