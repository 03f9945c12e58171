/- The model's number and line. -/
import Derived.Test.YtlemadbmlnjhpaaGreatDoorLP
import Derived.Test.YtlemadbmlnjhpaaGreatDoorLH
import Derived.Deep.RegionHeld3
namespace Go.Proofs.YtlemadbmlnjhpaaGreatDoor
open Go Go.RowKit Go.Proofs
set_option linter.unusedSimpArgs false
set_option linter.unusedVariables false

theorem itoa_small (n : Nat) (h : n < 10) : Lib.itoa (n : Int) = [UInt8.ofNat (48 + n)] := by
  have : n = 0 ∨ n = 1 ∨ n = 2 ∨ n = 3 ∨ n = 4 ∨ n = 5 ∨ n = 6 ∨ n = 7 ∨ n = 8 ∨ n = 9 := by omega
  rcases this with rfl | rfl | rfl | rfl | rfl | rfl | rfl | rfl | rfl | rfl <;> decide +kernel
theorem itoa_step (n : Nat) (h : 10 ≤ n) : Lib.itoa (n : Int) = Lib.itoa ((n / 10 : Nat) : Int) ++ Lib.itoa ((n % 10 : Nat) : Int) := by
  unfold Lib.itoa
  rw [if_neg (by omega), if_neg (by omega), if_neg (by omega)]
  have e1 : Lib.decDigits ((n : Int)).toNat = Lib.decDigits (n / 10) ++ [UInt8.ofNat (48 + n % 10)] := by
    show Lib.decDigits n = _
    rw [Lib.decDigits, dif_neg (by omega)]
  have e2 : Lib.decDigits (((n % 10 : Nat) : Int)).toNat = [UInt8.ofNat (48 + n % 10)] := by
    show Lib.decDigits (n % 10) = _
    rw [Lib.decDigits, dif_pos (by omega)]
  rw [e1, e2]
  rfl
set_option maxRecDepth 100000 in
set_option maxHeartbeats 1600000 in
theorem number_nat : ∀ (N n : Nat) (w : World), n < N → n ≤ 1000000000000000 → Calls Tryz.prog 44 #[.int .i64 n] w fun e w' => e = .returned (bytesV (Lib.itoa n)) ∧ Below w.heap.size w w'
  | 0, n, w, h, _ => absurd h (by omega)
  | N + 1, n, w, h, hm => by
    by_cases h10 : n < 10
    · have hi := Lib.hid (itoa_small n h10)
      go_enter Tryz.func44, Tryz.ntmps44
      have hu : ((UInt8.ofNat (48 + n)).toNat : Int) = 48 + (n : Int) := by
        have : (UInt8.ofNat (48 + n)).toNat = 48 + n := by rw [UInt8.toNat_ofNat']; exact Nat.mod_eq_of_lt (by omega)
        omega
      have hconv := run_convert_bytes_back (P := Tryz.prog) (w.alloc (.cells #[.int .u8 (48 + (n : Int))] 5)) 75 9 5 ⟨w.heap.size, 0, none⟩ 1 [UInt8.ofNat (48 + n)] Tryz.underlying75 Tryz.underlying5 Tryz.underlying9 (fun j hj => by
        have hj0 : j = 0 := by simpa using hj
        subst hj0
        rw [Addr.add_mid, cell_of_row _ _ _ _ _ _ (heap_alloc_new w _)]
        simp only [List.getElem_cons_zero, hu]
        rfl)
      have hconv2 : (convert 75 9 (.slice (some ⟨w.heap.size, 0, none⟩) 1 1)).run Tryz.prog (w.alloc (.cells #[.int .u8 (48 + (n : Int))] 5)) = .ok (bytesV [UInt8.ofNat (48 + n)]) (w.alloc (.cells #[.int .u8 (48 + (n : Int))] 5)) := hconv
      rw [← hi.out] at hconv2
      clear hu hconv
      have hlt : (n : Int) < 10 := by omega
      go_wp2_with fail
      go_ret
      exact ⟨rfl, (Below.refl _ _).alloc (Nat.le_refl _) _⟩
    · have ih1 := fun W => number_nat N (n / 10) W (by omega) (by omega)
      have ih2 := fun W => number_nat N (n % 10) W (by omega) (by omega)
      have ih1' := Lib.hid ih1
      have ih2' := Lib.hid ih2
      have hs := Lib.hid (itoa_step n (by omega))
      clear ih1 ih2
      have hq : Int.tdiv (n : Int) 10 = ((n / 10 : Nat) : Int) := rfl
      have hr : Int.tmod (n : Int) 10 = ((n % 10 : Nat) : Int) := rfl
      go_enter Tryz.func44, Tryz.ntmps44
      obtain ⟨I1, hI1⟩ : ∃ I, I = Lib.itoa ((n / 10 : Nat) : Int) := ⟨_, rfl⟩
      obtain ⟨I2, hI2⟩ : ∃ I, I = Lib.itoa ((n % 10 : Nat) : Int) := ⟨_, rfl⟩
      have hl1 : I1.length ≤ 21 := by rw [hI1]; exact Lib.itoa_length_le _ (by omega) (by omega)
      have hl2 : I2.length ≤ 21 := by rw [hI2]; exact Lib.itoa_length_le _ (by omega) (by omega)
      rw [← hI1] at ih1' hs
      rw [← hI2] at ih2' hs
      clear hI1 hI2
      go_wp2_with (go_at_call 44; fail)
      refine (ih1'.out w).mono ?_
      rintro e w1 ⟨rfl, hb1⟩
      have hb1' := Lib.hid hb1
      clear hb1
      go_wp2_with (go_at_call 44; fail)
      refine (ih2'.out w1).mono ?_
      rintro e w2 ⟨rfl, hb2⟩
      have hb2' := Lib.hid (hb1'.out.trans (hb2.mono hb1'.out.size))
      clear hb2
      have hadd := run_string_add_lists (P := Tryz.prog) w2 I1 I2 (by omega) (by omega)
      rw [← hs.out] at hadd
      go_wp2_with fail
      go_ret
      exact ⟨rfl, hb2'.out⟩
theorem number_any (n : Int) (w : World) (h0 : 0 ≤ n) (h1 : n ≤ 1000000000000000) : Calls Tryz.prog 44 #[.int .i64 n] w fun e w' => e = .returned (bytesV (Lib.itoa n)) ∧ Below w.heap.size w w' := by
  obtain ⟨m, rfl⟩ : ∃ m : Nat, n = m := ⟨n.toNat, by omega⟩
  exact number_nat (m + 1) m w (by omega) (by omega)
theorem lineM_parts (s : List UInt8) (a b : Int) : lineM s (a, b) = s ++ [32] ++ Lib.itoa a ++ [32] ++ Lib.itoa b ++ [10] := rfl
set_option maxRecDepth 100000 in
set_option maxHeartbeats 3200000 in
theorem line_any (s : List UInt8) (a b : Int) (w : World) (hs : s.length ≤ 100000) (ha : 0 ≤ a ∧ a ≤ 1000000000000000) (hb : 0 ≤ b ∧ b ≤ 1000000000000000) :
    Calls Tryz.prog 43 #[bytesV s, .agg #[.int .i64 a, .int .i64 b]] w fun e w' => e = .returned (bytesV (lineM s (a, b))) ∧ Below w.heap.size w w' := by
  have n1 := fun (z : Int) W (hz : z = a ∨ z = b) => number_any z W (by omega) (by omega)
  have hla := Lib.itoa_length_le a (by omega) (by omega)
  have hlb := Lib.itoa_length_le b (by omega) (by omega)
  have hp := lineM_parts s a b
  obtain ⟨s1, hs1⟩ : ∃ x, x = s ++ [32] := ⟨_, rfl⟩
  obtain ⟨s2, hs2⟩ : ∃ x, x = s1 ++ Lib.itoa a := ⟨_, rfl⟩
  obtain ⟨s3, hs3⟩ : ∃ x, x = s2 ++ [32] := ⟨_, rfl⟩
  obtain ⟨s4, hs4⟩ : ∃ x, x = s3 ++ Lib.itoa b := ⟨_, rfl⟩
  obtain ⟨s5, hs5⟩ : ∃ x, x = s4 ++ [10] := ⟨_, rfl⟩
  rw [← hs1, ← hs2, ← hs3, ← hs4, ← hs5] at hp
  have l1 : s1.length ≤ 100001 := by rw [hs1]; simp; omega
  have l2 : s2.length ≤ 100030 := by rw [hs2]; simp; omega
  have l3 : s3.length ≤ 100031 := by rw [hs3]; simp; omega
  have l4 : s4.length ≤ 100060 := by rw [hs4]; simp; omega
  have a1 := fun W => run_string_add_lists (P := Tryz.prog) W s [32] (by omega) (by simp)
  have a2 := fun W => run_string_add_lists (P := Tryz.prog) W s1 (Lib.itoa a) (by omega) (by omega)
  have a3 := fun W => run_string_add_lists (P := Tryz.prog) W s2 [32] (by omega) (by simp)
  have a4 := fun W => run_string_add_lists (P := Tryz.prog) W s3 (Lib.itoa b) (by omega) (by omega)
  have a5 := fun W => run_string_add_lists (P := Tryz.prog) W s4 [10] (by omega) (by simp)
  rw [← hs1] at a1
  rw [← hs2] at a2
  rw [← hs3] at a3
  rw [← hs4] at a4
  rw [← hs5] at a5
  have n1' := Lib.hid n1
  have hp' := Lib.hid hp
  obtain ⟨W, hW⟩ : ∃ W, W = w.alloc (.cells #[.int .i64 a, .int .i64 b] 34) := ⟨_, rfl⟩
  have hb0 := Lib.hid (show Below w.heap.size w W by rw [hW]; exact (Below.refl _ _).alloc (Nat.le_refl _) _)
  have hbk : W.heap[w.heap.size]? = some (.cells #[.int .i64 a, .int .i64 b] 34 (0, 0)) := by rw [hW]; exact heap_alloc_new w _
  have hlt : w.heap.size < W.heap.size := (Array.getElem?_eq_some_iff.1 hbk).1
  have c0 : W.cell? ⟨w.heap.size, 0, none⟩ = some (.int .i64 a) := by rw [cell_of_row _ _ _ _ _ _ hbk]; rfl
  have c1 : W.cell? ⟨w.heap.size, 1, none⟩ = some (.int .i64 b) := by rw [cell_of_row _ _ _ _ _ _ hbk]; rfl
  have hW' := Lib.hid hW
  clear n1 hp hs1 hs2 hs3 hs4 hs5 hW hbk hs ha hb hla hlb l1 l2 l3 l4
  go_enter Tryz.func43, Tryz.ntmps43
  go_wp2_with fail
  rw [← hW'.out]
  have hbW : Below W.heap.size W W := Below.refl _ _
  go_region_held3 (fun W' => Below W.heap.size W W' ∧ W'.cell? ⟨w.heap.size, 0, none⟩ = some (.int .i64 a) ∧ W'.cell? ⟨w.heap.size, 1, none⟩ = some (.int .i64 b)) (refine ⟨?_, ?_, ?_⟩ <;> first | assumption | exact (by assumption : Below _ _ _).drew)
    ((go_at_call 44; refine (n1'.out _ _ (by first | exact Or.inl rfl | exact Or.inr rfl)).mono ?_; rintro e W1 ⟨rfl, hb1⟩; have hq1 : Below W.heap.size W W1 := Below.trans (by first | assumption | exact And.left (by assumption)) (hb1.mono (Below.size (w := W) (B := W.heap.size) (by first | assumption | exact And.left (by assumption)))); have hd0 := (hq1.cell (p := ⟨w.heap.size, 0, none⟩) hlt).trans c0; have hd1 := (hq1.cell (p := ⟨w.heap.size, 1, none⟩) hlt).trans c1; clear hb1))
  have hbf := Lib.hid (hb0.out.trans (hq1.mono hb0.out.size))
  go_wp2_with fail
  go_ret
  exact ⟨by rw [hp'.out]; rfl, hbf.out⟩
end Go.Proofs.YtlemadbmlnjhpaaGreatDoor
