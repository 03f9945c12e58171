/- The model's number and line. -/
/- The model's insert. -/
/- The model's all. (Printed by wip/gen_all.py.) -/
/- The model's text: laws for its walk; its first drawn statement. -/
import Derived.Test.YtlemadbmlnjhpaaGreatDoorH4
import Derived.Test.YtlemadbmlnjhpaaGreatDoorH5
import Derived.Deep.RegionHeld3
import Derived.Test.YtlemadbmlnjhpaaGreatDoorH1
namespace Go.Proofs.YtlemadbmlnjhpaaGreatDoor
open Go Go.RowKit Go.Proofs
set_option linter.unusedSimpArgs false
set_option linter.unusedVariables false

theorem itoa_small (n : Nat) (h : n < 10) : Lib.itoa (n : Int) = [UInt8.ofNat (48 + n)] := by
  have : n = 0 ∨ n = 1 ∨ n = 2 ∨ n = 3 ∨ n = 4 ∨ n = 5 ∨ n = 6 ∨ n = 7 ∨ n = 8 ∨ n = 9 := by omega
  rcases this with rfl | rfl | rfl | rfl | rfl | rfl | rfl | rfl | rfl | rfl <;> decide +kernel
theorem itoa_step (n : Nat) (h : 10 ≤ n) : Lib.itoa (n : Int) = Lib.itoa ((n / 10 : Nat) : Int) ++ Lib.itoa ((n % 10 : Nat) : Int) := by
  unfold Lib.itoa
  rw [if_neg (by omega), if_neg (by omega), if_neg (by omega)]
  have e1 : Lib.decDigits ((n : Int)).toNat = Lib.decDigits (n / 10) ++ [UInt8.ofNat (48 + n % 10)] := by
    show Lib.decDigits n = _
    rw [Lib.decDigits, dif_neg (by omega)]
  have e2 : Lib.decDigits (((n % 10 : Nat) : Int)).toNat = [UInt8.ofNat (48 + n % 10)] := by
    show Lib.decDigits (n % 10) = _
    rw [Lib.decDigits, dif_pos (by omega)]
  rw [e1, e2]
  rfl
set_option maxRecDepth 100000 in
set_option maxHeartbeats 1600000 in
theorem number_nat : ∀ (N n : Nat) (w : World), n < N → n ≤ 1000000000000000 → Calls Tryz.prog 44 #[.int .i64 n] w fun e w' => e = .returned (bytesV (Lib.itoa n)) ∧ Below w.heap.size w w'
  | 0, n, w, h, _ => absurd h (by omega)
  | N + 1, n, w, h, hm => by
    by_cases h10 : n < 10
    · have hi := Lib.hid (itoa_small n h10)
      go_enter Tryz.func44, Tryz.ntmps44
      have hu : ((UInt8.ofNat (48 + n)).toNat : Int) = 48 + (n : Int) := by
        have : (UInt8.ofNat (48 + n)).toNat = 48 + n := by rw [UInt8.toNat_ofNat']; exact Nat.mod_eq_of_lt (by omega)
        omega
      have hconv := run_convert_bytes_back (P := Tryz.prog) (w.alloc (.cells #[.int .u8 (48 + (n : Int))] 5)) 75 9 5 ⟨w.heap.size, 0, none⟩ 1 [UInt8.ofNat (48 + n)] Tryz.underlying75 Tryz.underlying5 Tryz.underlying9 (fun j hj => by
        have hj0 : j = 0 := by simpa using hj
        subst hj0
        rw [Addr.add_mid, cell_of_row _ _ _ _ _ _ (heap_alloc_new w _)]
        simp only [List.getElem_cons_zero, hu]
        rfl)
      have hconv2 : (convert 75 9 (.slice (some ⟨w.heap.size, 0, none⟩) 1 1)).run Tryz.prog (w.alloc (.cells #[.int .u8 (48 + (n : Int))] 5)) = .ok (bytesV [UInt8.ofNat (48 + n)]) (w.alloc (.cells #[.int .u8 (48 + (n : Int))] 5)) := hconv
      rw [← hi.out] at hconv2
      clear hu hconv
      have hlt : (n : Int) < 10 := by omega
      go_wp2_with fail
      go_ret
      exact ⟨rfl, (Below.refl _ _).alloc (Nat.le_refl _) _⟩
    · have ih1 := fun W => number_nat N (n / 10) W (by omega) (by omega)
      have ih2 := fun W => number_nat N (n % 10) W (by omega) (by omega)
      have ih1' := Lib.hid ih1
      have ih2' := Lib.hid ih2
      have hs := Lib.hid (itoa_step n (by omega))
      clear ih1 ih2
      have hq : Int.tdiv (n : Int) 10 = ((n / 10 : Nat) : Int) := rfl
      have hr : Int.tmod (n : Int) 10 = ((n % 10 : Nat) : Int) := rfl
      go_enter Tryz.func44, Tryz.ntmps44
      obtain ⟨I1, hI1⟩ : ∃ I, I = Lib.itoa ((n / 10 : Nat) : Int) := ⟨_, rfl⟩
      obtain ⟨I2, hI2⟩ : ∃ I, I = Lib.itoa ((n % 10 : Nat) : Int) := ⟨_, rfl⟩
      have hl1 : I1.length ≤ 21 := by rw [hI1]; exact Lib.itoa_length_le _ (by omega) (by omega)
      have hl2 : I2.length ≤ 21 := by rw [hI2]; exact Lib.itoa_length_le _ (by omega) (by omega)
      rw [← hI1] at ih1' hs
      rw [← hI2] at ih2' hs
      clear hI1 hI2
      go_wp2_with (go_at_call 44; fail)
      refine (ih1'.out w).mono ?_
      rintro e w1 ⟨rfl, hb1⟩
      have hb1' := Lib.hid hb1
      clear hb1
      go_wp2_with (go_at_call 44; fail)
      refine (ih2'.out w1).mono ?_
      rintro e w2 ⟨rfl, hb2⟩
      have hb2' := Lib.hid (hb1'.out.trans (hb2.mono hb1'.out.size))
      clear hb2
      have hadd := run_string_add_lists (P := Tryz.prog) w2 I1 I2 (by omega) (by omega)
      rw [← hs.out] at hadd
      go_wp2_with fail
      go_ret
      exact ⟨rfl, hb2'.out⟩
theorem number_any (n : Int) (w : World) (h0 : 0 ≤ n) (h1 : n ≤ 1000000000000000) : Calls Tryz.prog 44 #[.int .i64 n] w fun e w' => e = .returned (bytesV (Lib.itoa n)) ∧ Below w.heap.size w w' := by
  obtain ⟨m, rfl⟩ : ∃ m : Nat, n = m := ⟨n.toNat, by omega⟩
  exact number_nat (m + 1) m w (by omega) (by omega)
theorem lineM_parts (s : List UInt8) (a b : Int) : lineM s (a, b) = s ++ [32] ++ Lib.itoa a ++ [32] ++ Lib.itoa b ++ [10] := rfl
set_option maxRecDepth 100000 in
set_option maxHeartbeats 3200000 in
theorem line_any (s : List UInt8) (a b : Int) (w : World) (hs : s.length ≤ 100000) (ha : 0 ≤ a ∧ a ≤ 1000000000000000) (hb : 0 ≤ b ∧ b ≤ 1000000000000000) :
    Calls Tryz.prog 43 #[bytesV s, .agg #[.int .i64 a, .int .i64 b]] w fun e w' => e = .returned (bytesV (lineM s (a, b))) ∧ Below w.heap.size w w' := by
  have n1 := fun (z : Int) W (hz : z = a ∨ z = b) => number_any z W (by omega) (by omega)
  have hla := Lib.itoa_length_le a (by omega) (by omega)
  have hlb := Lib.itoa_length_le b (by omega) (by omega)
  have hp := lineM_parts s a b
  obtain ⟨s1, hs1⟩ : ∃ x, x = s ++ [32] := ⟨_, rfl⟩
  obtain ⟨s2, hs2⟩ : ∃ x, x = s1 ++ Lib.itoa a := ⟨_, rfl⟩
  obtain ⟨s3, hs3⟩ : ∃ x, x = s2 ++ [32] := ⟨_, rfl⟩
  obtain ⟨s4, hs4⟩ : ∃ x, x = s3 ++ Lib.itoa b := ⟨_, rfl⟩
  obtain ⟨s5, hs5⟩ : ∃ x, x = s4 ++ [10] := ⟨_, rfl⟩
  rw [← hs1, ← hs2, ← hs3, ← hs4, ← hs5] at hp
  have l1 : s1.length ≤ 100001 := by rw [hs1]; simp; omega
  have l2 : s2.length ≤ 100030 := by rw [hs2]; simp; omega
  have l3 : s3.length ≤ 100031 := by rw [hs3]; simp; omega
  have l4 : s4.length ≤ 100060 := by rw [hs4]; simp; omega
  have a1 := fun W => run_string_add_lists (P := Tryz.prog) W s [32] (by omega) (by simp)
  have a2 := fun W => run_string_add_lists (P := Tryz.prog) W s1 (Lib.itoa a) (by omega) (by omega)
  have a3 := fun W => run_string_add_lists (P := Tryz.prog) W s2 [32] (by omega) (by simp)
  have a4 := fun W => run_string_add_lists (P := Tryz.prog) W s3 (Lib.itoa b) (by omega) (by omega)
  have a5 := fun W => run_string_add_lists (P := Tryz.prog) W s4 [10] (by omega) (by simp)
  rw [← hs1] at a1
  rw [← hs2] at a2
  rw [← hs3] at a3
  rw [← hs4] at a4
  rw [← hs5] at a5
  have n1' := Lib.hid n1
  have hp' := Lib.hid hp
  obtain ⟨W, hW⟩ : ∃ W, W = w.alloc (.cells #[.int .i64 a, .int .i64 b] 34) := ⟨_, rfl⟩
  have hb0 := Lib.hid (show Below w.heap.size w W by rw [hW]; exact (Below.refl _ _).alloc (Nat.le_refl _) _)
  have hbk : W.heap[w.heap.size]? = some (.cells #[.int .i64 a, .int .i64 b] 34 (0, 0)) := by rw [hW]; exact heap_alloc_new w _
  have hlt : w.heap.size < W.heap.size := (Array.getElem?_eq_some_iff.1 hbk).1
  have c0 : W.cell? ⟨w.heap.size, 0, none⟩ = some (.int .i64 a) := by rw [cell_of_row _ _ _ _ _ _ hbk]; rfl
  have c1 : W.cell? ⟨w.heap.size, 1, none⟩ = some (.int .i64 b) := by rw [cell_of_row _ _ _ _ _ _ hbk]; rfl
  have hW' := Lib.hid hW
  clear n1 hp hs1 hs2 hs3 hs4 hs5 hW hbk hs ha hb hla hlb l1 l2 l3 l4
  go_enter Tryz.func43, Tryz.ntmps43
  go_wp2_with fail
  rw [← hW'.out]
  have hbW : Below W.heap.size W W := Below.refl _ _
  go_region_held3 (fun W' => Below W.heap.size W W' ∧ W'.cell? ⟨w.heap.size, 0, none⟩ = some (.int .i64 a) ∧ W'.cell? ⟨w.heap.size, 1, none⟩ = some (.int .i64 b)) (refine ⟨?_, ?_, ?_⟩ <;> first | assumption | exact (by assumption : Below _ _ _).drew)
    ((go_at_call 44; refine (n1'.out _ _ (by first | exact Or.inl rfl | exact Or.inr rfl)).mono ?_; rintro e W1 ⟨rfl, hb1⟩; have hq1 : Below W.heap.size W W1 := Below.trans (by first | assumption | exact And.left (by assumption)) (hb1.mono (Below.size (w := W) (B := W.heap.size) (by first | assumption | exact And.left (by assumption)))); have hd0 := (hq1.cell (p := ⟨w.heap.size, 0, none⟩) hlt).trans c0; have hd1 := (hq1.cell (p := ⟨w.heap.size, 1, none⟩) hlt).trans c1; clear hb1))
  have hbf := Lib.hid (hb0.out.trans (hq1.mono hb0.out.size))
  go_wp2_with fail
  go_ret
  exact ⟨by rw [hp'.out]; rfl, hbf.out⟩
end Go.Proofs.YtlemadbmlnjhpaaGreatDoor
namespace Go.Proofs.YtlemadbmlnjhpaaGreatDoor
open Go Go.RowKit Go.Proofs
set_option linter.unusedSimpArgs false
set_option linter.unusedVariables false

theorem atS_lt {s : ByteArray} : ∀ {l : List ByteArray} {j : Nat}, j < atS s l → ∃ x, l[j]? = some x ∧ cbK x s < 0
  | [], j, h => by simp [atS] at h
  | x :: r, j, h => by
    unfold atS at h
    split at h
    · rename_i hx
      cases j with
      | zero => exact ⟨x, rfl, hx⟩
      | succ j => simpa using atS_lt (l := r) (j := j) (by omega)
    · omega
theorem atS_at {s : ByteArray} : ∀ {l : List ByteArray} {x : ByteArray}, l[atS s l]? = some x → ¬ cbK x s < 0
  | [], x, h => by simp at h
  | y :: r, x, h => by
    unfold atS at h
    split at h
    · rw [List.getElem?_cons_succ] at h; exact atS_at h
    · rename_i hx
      obtain rfl : y = x := by simpa using h
      exact hx
theorem less_cb : ∀ (a b : List UInt8), Op.bytesLess a b = decide (Lib.compareBytes a b < 0)
  | [], [] => by simp [Op.bytesLess, Lib.compareBytes]
  | [], _ :: _ => by simp [Op.bytesLess, Lib.compareBytes]
  | _ :: _, [] => by simp [Op.bytesLess, Lib.compareBytes]
  | x :: xs, y :: ys => by
    have ih := less_cb xs ys
    rw [Op.bytesLess, Lib.compareBytes, ih]
    rcases u8_trich x y with h | rfl | h
    · rw [if_pos h]; simp [h]
    · rw [if_neg (u8_irrefl x), if_neg (u8_irrefl x)]; simp [u8_irrefl]
    · have hne : (x == y) = false := beq_eq_false_iff_ne.2 (fun he => by subst he; exact u8_irrefl _ h)
      rw [if_neg (u8_asymm h), if_pos h, hne]; simp [u8_asymm h]
theorem less_cbK (a b : ByteArray) : Op.bytesLess a.toList b.toList = decide (cbK a b < 0) := by
  rw [less_cb, ByteArray.toList_eq, ByteArray.toList_eq]; rfl
/-- strings that a call owns -/
abbrev strV (l : List ByteArray) : List Value := l.map Value.string
theorem own_form {W : World} {v : Value} {xs : List Value} {base : Nat} {e : TypeId} (h : W.ownsRow base e 1 v xs.length xs) :
    ∃ A c, v = .slice A xs.length c ∧ ∀ j y, xs[j]? = some y → ∃ b o, A = some ⟨b, o, none⟩ ∧ W.cell? ⟨b, o + j, none⟩ = some y := by
  rcases h.2 with ⟨rfl, h0⟩ | ⟨g, cap, cur, rfl, hb', hg, h4, h5, h6, h7⟩
  · have hx : xs = [] := List.eq_nil_of_length_eq_zero h0
    subst hx
    exact ⟨none, 0, rfl, fun j y hj => by simp at hj⟩
  · refine ⟨some ⟨g, 0, none⟩, cap, rfl, fun j y hj => ⟨g, 0, rfl, ?_⟩⟩
    rw [Nat.zero_add, h.cellAt j (by have := (List.getElem?_eq_some_iff.1 hj).1; omega)]; exact hj
abbrev OwnS (W : World) (base : Nat) (v : Value) (xs : List ByteArray) : Prop := W.ownsRow base 9 1 v xs.length (strV xs)
theorem bytes_eq_toList {a b : ByteArray} : (a.toList == b.toList) = decide (a = b) := by
  by_cases h : a = b
  · subst h; simp
  · rw [decide_eq_false h]
    exact beq_eq_false_iff_ne.2 fun he => h (bytes_beq_true (by rw [he]; simp))

theorem ins_own {w wE : World} {base k : Nat} {vE : Value} {xs : List ByteArray} {s : ByteArray} (hend : insS xs s = xs.take k ++ [s] ++ xs.drop k) (hk : k ≤ xs.length) (hbase : base ≤ w.heap.size)
    (ho : wE.ownsRow w.heap.size 9 1 vE (0 + k + 1 + (xs.length - k)) ([] ++ (strV xs).take k ++ [.string s] ++ (strV xs).drop k)) : OwnS wE base vE (insS xs s) := by
  have e : strV (insS xs s) = [] ++ (strV xs).take k ++ [.string s] ++ (strV xs).drop k := by
    rw [hend]; simp [strV, List.map_take, List.map_drop]
  have e2 : (insS xs s).length = 0 + k + 1 + (xs.length - k) := by rw [hend]; simp; omega
  unfold OwnS
  rw [e2, e]
  exact ownsRow_base_a ho hbase
set_option maxRecDepth 100000 in
set_option maxHeartbeats 3200000 in
theorem insert_any (v : Value) (xs : List ByteArray) (s : ByteArray) (w : World) (base : Nat) (h : OwnS w base v xs) (hbase : base ≤ w.heap.size) (hl : xs.length ≤ 100000) :
    Calls Tryz.prog 37 #[v, .string s] w fun e w' => ∃ u, e = .returned u ∧ OwnS w' base u (insS xs s) ∧ Below w.heap.size w w' := by
  obtain ⟨i0, hi, hz0, hz1, hz2⟩ := info_parts Tryz.infoStr
  have hi' := Lib.hid hi
  have hz0' := Lib.hid hz0
  have hz1' := Lib.hid hz1
  have hz2' := Lib.hid hz2
  have h' := Lib.hid h
  have hxl : (strV xs).length = xs.length := by simp [strV]
  obtain ⟨A, c, rfl, hcell⟩ := own_form (xs := strV xs) (by rw [hxl]; exact h)
  rw [hxl] at h' ⊢
  have hcell2 : ∀ j x, xs[j]? = some x → ∃ b o, A = some ⟨b, o, none⟩ ∧ w.cell? ⟨b, o + j, none⟩ = some (.string x) := fun j x hj => hcell j _ (by simp [strV, hj])
  have hcell' := Lib.hid hcell2
  have hxl' := Lib.hid hxl
  clear hi hz0 hz1 hz2 h hcell hcell2 hxl
  go_enter Tryz.func37, Tryz.ntmps37
  go_wp2_with fail
  go_loop [5] (fun i => ∃ j : Nat, j ≤ atS s xs ∧ i = .int .i64 j) (fun i => atS s xs - (intOf i).toNat)
  case atStart => exact ⟨0, by omega, rfl⟩
  case round =>
    obtain ⟨j, hj0, rfl⟩ := hrel
    have hat := atS_le s xs
    by_cases hj : j < atS s xs
    · obtain ⟨x, hx, hlt⟩ := atS_lt hj
      obtain ⟨b, o, rfl, hc⟩ := hcell'.out j x hx
      have hless : Op.bytesLess x.toList s.toList = true := by rw [less_cbK, decide_eq_true hlt]
      have hjl : j < xs.length := by omega
      clear hx hlt
      go_wp2_with fail
      exact ⟨⟨j + 1, by omega, by go_num⟩, by simp [intOf]; omega⟩
    · obtain rfl : j = atS s xs := by omega
      have hins : insS xs s = if xs[atS s xs]? = some s then xs else xs.take (atS s xs) ++ [s] ++ xs.drop (atS s xs) := rfl
      have hatx := fun x => atS_at (s := s) (l := xs) (x := x)
      obtain ⟨k, hk⟩ : ∃ k, k = atS s xs := ⟨_, rfl⟩
      rw [← hk] at hat hins hatx hj0 ⊢
      have hins' := Lib.hid hins
      have hatx' := Lib.hid hatx
      clear hins hatx hk hj hj0
      have hrest : ∀ (K : Prop), K → K := fun _ h => h
      by_cases hkl : k < xs.length
      · obtain ⟨x, hx⟩ : ∃ x, xs[k]? = some x := ⟨_, List.getElem?_eq_getElem hkl⟩
        obtain ⟨b, o, rfl, hc⟩ := hcell'.out k x hx
        have hless : Op.bytesLess x.toList s.toList = false := by rw [less_cbK, decide_eq_false (hatx'.out x hx)]
        have heq := bytes_eq_toList (a := x) (b := s)
        have hx' := Lib.hid hx
        clear hx
        by_cases hxs : x = s
        · rw [decide_eq_true hxs] at heq
          have hend : Hid (insS xs s = xs) := by show _ = _; rw [hins'.out, if_pos (by rw [hx'.out, hxs])]
          clear hxs
          go_wp2_with fail
          go_ret
          exact ⟨_, rfl, by rw [hend.out]; exact h'.out, Below.refl _ _⟩
        · rw [decide_eq_false hxs] at heq
          have hend : Hid (insS xs s = xs.take k ++ [s] ++ xs.drop k) := by show _ = _; rw [hins'.out, if_neg (by rw [hx'.out]; simpa using hxs)]
          clear hxs
          obtain ⟨A', n', c', hform2, hn', hcn, hcm, hs1, hs2⟩ := sliced_src (xs := strV xs) (by rw [hxl'.out]; exact h'.out) (k := k) (by rw [hxl'.out]; exact hat)
          rw [hxl'.out] at hn'
          cases hform2
          have hr1 := fun W => run_slice_hi (P := Tryz.prog) W 25 (by kernel_rfl) (fun w => by kernel_rfl) (some ⟨b, o, none⟩) xs.length c k (by omega)
          have hr2 := fun W => run_slice_lo (P := Tryz.prog) W 25 (by kernel_rfl) (fun w => by kernel_rfl) (some ⟨b, o, none⟩) xs.length c k (by omega)
          obtain ⟨U1, hU1⟩ : ∃ U, U = sliced (some ⟨b, o, none⟩) 0 k c 1 := ⟨_, rfl⟩
          obtain ⟨U2, hU2⟩ : ∃ U, U = sliced (some ⟨b, o, none⟩) k xs.length c 1 := ⟨_, rfl⟩
          rw [← hU1] at hr1 hs1
          rw [← hU2] at hr2 hs2
          have hs1' := Lib.hid hs1
          have hs2' := Lib.hid hs2
          have hhat := Lib.hid hat
          clear hs1 hs2 hU1 hU2 hcn hcm hn' hat
          go_wp2_with fail
          have hone1 : ∀ u ∈ (strV xs).take k, u.oneCell' = true := fun u hu => by
            obtain ⟨x, _, rfl⟩ := List.mem_map.1 (List.mem_of_mem_take hu); rfl
          have hone2 : ∀ u ∈ (strV xs).drop k, u.oneCell' = true := fun u hu => by
            obtain ⟨x, _, rfl⟩ := List.mem_map.1 (List.mem_of_mem_drop hu); rfl
          have hone1' := Lib.hid hone1
          have hone2' := Lib.hid hone2
          clear hone1 hone2
          go_region_held3 (fun W' => Below w.heap.size w W') (first | assumption | exact (Below.refl _ _).drew | exact Below.alloc (by assumption) (Below.size (by assumption)) _)
            (first
              | ((refine step_append_bel (o := ⟨some 37, _, _, _, _, _⟩) _ (by rfl) _ _ 25 (by rfl) w (by assumption) 9 i0 _ 1 16 Tryz.underlying25 hi'.out hz0'.out hz1'.out hz2'.out rfl (by omega) _ 0 [] (by rfl) (own_empty (by first | exact heap_alloc2_new _ _ _ | exact heap_alloc2_old _ _ _ | exact heap_alloc_new _ _) (by first | exact Nat.le_refl _ | omega)) U1 k _ (by rfl) (hs1'.out.below (by assumption)) hone1'.out (by have := hhat.out; omega) (by omega) ?_; intro vB wB hownB hbB hgB hatB))
              | ((refine step_append_bel (o := ⟨some 40, _, _, _, _, _⟩) _ (by rfl) _ _ 25 (by rfl) w (by assumption) 9 i0 _ 1 16 Tryz.underlying25 hi'.out hz0'.out hz1'.out hz2'.out rfl (by omega) vB (0 + k) _ (by rfl) (by first | exact hownB | exact hownB.alloc _) _ 1 [.string s] (by rfl) (by first | exact src_block (heap_alloc_new _ _) rfl | exact src_block ((hgB.block _ (by simp) (by simp [Value.ownBlock])).trans (heap_alloc2_new _ _ _)) rfl | exact src_block ((hgB.block _ (by simp <;> omega) (by simp [Value.ownBlock])).trans (heap_alloc2_old _ _ _)) rfl) (by simp [Value.oneCell']) (by have := hhat.out; omega) (by omega) ?_; intro vD wD hownD hbD hgD hatD))
              | ((refine step_append_bel (o := ⟨some 44, _, _, _, _, _⟩) _ (by rfl) _ _ 25 (by rfl) w (by assumption) 9 i0 _ 1 16 Tryz.underlying25 hi'.out hz0'.out hz1'.out hz2'.out rfl (by omega) vD (0 + k + 1) _ (by rfl) hownD U2 (xs.length - k) _ (by rfl) (hs2'.out.below (by assumption)) hone2'.out (by have := hhat.out; omega) (by omega) ?_; intro vE wE hownE hbE hgE hatE)))
          all_goals
            go_wp2_with fail
            go_ret
            exact ⟨_, rfl, ins_own hend.out hhat.out hbase hownE, hbE⟩
      · obtain rfl : k = xs.length := by omega
        have hend : Hid (insS xs s = xs.take xs.length ++ [s] ++ xs.drop xs.length) := by show _ = _; rw [hins'.out, if_neg (by rw [List.getElem?_eq_none (by omega)]; simp)]
        obtain ⟨A', n', c', hform2, hn', hcn, hcm, hs1, hs2⟩ := sliced_src (xs := strV xs) (by rw [hxl'.out]; exact h'.out) (k := xs.length) (by rw [hxl'.out]; exact hat)
        rw [hxl'.out] at hn'
        cases hform2
        have hr1 := fun W => run_slice_hi (P := Tryz.prog) W 25 (by kernel_rfl) (fun w => by kernel_rfl) A xs.length c xs.length (by omega)
        have hr2 := fun W => run_slice_lo (P := Tryz.prog) W 25 (by kernel_rfl) (fun w => by kernel_rfl) A xs.length c xs.length (by omega)
        obtain ⟨U1, hU1⟩ : ∃ U, U = sliced A 0 xs.length c 1 := ⟨_, rfl⟩
        obtain ⟨U2, hU2⟩ : ∃ U, U = sliced A xs.length xs.length c 1 := ⟨_, rfl⟩
        rw [← hU1] at hr1 hs1
        rw [← hU2] at hr2 hs2
        have hs1' := Lib.hid hs1
        have hs2' := Lib.hid hs2
        have hhat := Lib.hid hat
        clear hs1 hs2 hU1 hU2 hcn hcm hn' hat
        go_wp2_with fail
        have hone1 : ∀ u ∈ (strV xs).take xs.length, u.oneCell' = true := fun u hu => by
          obtain ⟨x, _, rfl⟩ := List.mem_map.1 (List.mem_of_mem_take hu); rfl
        have hone2 : ∀ u ∈ (strV xs).drop xs.length, u.oneCell' = true := fun u hu => by
          obtain ⟨x, _, rfl⟩ := List.mem_map.1 (List.mem_of_mem_drop hu); rfl
        have hone1' := Lib.hid hone1
        have hone2' := Lib.hid hone2
        clear hone1 hone2
        go_region_held3 (fun W' => Below w.heap.size w W') (first | assumption | exact (Below.refl _ _).drew | exact Below.alloc (by assumption) (Below.size (by assumption)) _)
          (first
            | ((refine step_append_bel (o := ⟨some 37, _, _, _, _, _⟩) _ (by rfl) _ _ 25 (by rfl) w (by assumption) 9 i0 _ 1 16 Tryz.underlying25 hi'.out hz0'.out hz1'.out hz2'.out rfl (by omega) _ 0 [] (by rfl) (own_empty (by first | exact heap_alloc2_new _ _ _ | exact heap_alloc2_old _ _ _ | exact heap_alloc_new _ _) (by first | exact Nat.le_refl _ | omega)) U1 xs.length _ (by rfl) (hs1'.out.below (by assumption)) hone1'.out (by have := hhat.out; omega) (by omega) ?_; intro vB wB hownB hbB hgB hatB))
            | ((refine step_append_bel (o := ⟨some 40, _, _, _, _, _⟩) _ (by rfl) _ _ 25 (by rfl) w (by assumption) 9 i0 _ 1 16 Tryz.underlying25 hi'.out hz0'.out hz1'.out hz2'.out rfl (by omega) vB (0 + xs.length) _ (by rfl) (by first | exact hownB | exact hownB.alloc _) _ 1 [.string s] (by rfl) (by first | exact src_block (heap_alloc_new _ _) rfl | exact src_block ((hgB.block _ (by simp) (by simp [Value.ownBlock])).trans (heap_alloc2_new _ _ _)) rfl | exact src_block ((hgB.block _ (by simp <;> omega) (by simp [Value.ownBlock])).trans (heap_alloc2_old _ _ _)) rfl) (by simp [Value.oneCell']) (by have := hhat.out; omega) (by omega) ?_; intro vD wD hownD hbD hgD hatD))
            | ((refine step_append_bel (o := ⟨some 44, _, _, _, _, _⟩) _ (by rfl) _ _ 25 (by rfl) w (by assumption) 9 i0 _ 1 16 Tryz.underlying25 hi'.out hz0'.out hz1'.out hz2'.out rfl (by omega) vD (0 + xs.length + 1) _ (by rfl) hownD U2 (xs.length - xs.length) _ (by rfl) (hs2'.out.below (by assumption)) hone2'.out (by have := hhat.out; omega) (by omega) ?_; intro vE wE hownE hbE hgE hatE)))
        all_goals
          go_wp2_with fail
          go_ret
          exact ⟨_, rfl, ins_own hend.out hhat.out hbase hownE, hbE⟩
end Go.Proofs.YtlemadbmlnjhpaaGreatDoor
namespace Go.Proofs.YtlemadbmlnjhpaaGreatDoor
open Go Go.RowKit Go.Proofs
set_option linter.unusedSimpArgs false
set_option linter.unusedVariables false

theorem names_len {e : Ev} (he : e.err = 0) (kind : Int) : (e.names kind).length ≤ 50 := by
  obtain ⟨_, ⟨h1, _⟩, h2, _⟩ := evErr_zero he
  unfold Ev.names
  split
  · exact h2
  · split
    · simp
    · exact Nat.le_trans h1 (by omega)
theorem allM_len (kind p q : Int) : ∀ (n : Nat) (es : List Ev), es.length = n → (∀ e ∈ es, e.err = 0) → (allM es kind p q).length ≤ 50 * n
  | 0, es, h, _ => by rw [List.eq_nil_of_length_eq_zero h]; simp [allM]
  | n + 1, es, h, ho => by
    obtain ⟨xs, e, rfl⟩ : ∃ xs e, es = xs ++ [e] := ⟨es.dropLast, es.getLast (by intro h0; subst h0; simp at h), (List.dropLast_concat_getLast _).symm⟩
    have ih := allM_len kind p q n xs (by simpa using h) (fun x hx => ho x (by simp [hx]))
    have h1 := names_len (ho e (by simp)) kind
    have h2 := foldIns_len (e.names kind) (allM xs kind p q)
    rw [allM_snoc, allStep]
    split <;> omega
set_option maxRecDepth 100000 in
set_option maxHeartbeats 3200000 in
theorem all_any (v : Value) (es : List Ev) (kind p q : Int) (w : World) (hv : SliceEv w v es) (hok : ∀ e ∈ es, e.err = 0) (hl : es.length ≤ 1000) (hk1 : 1 ≤ kind) (hk3 : kind ≤ 3) :
    Calls Tryz.prog 18 #[v, .int .i64 kind, .int .i64 p, .int .i64 q] w fun e w' => ∃ u, e = .returned u ∧ OwnS w' w.heap.size u (allM es kind p q) ∧ Below w.heap.size w w' := by
  obtain ⟨va, vc, rfl, _, hvf⟩ := hv.form
  clear hvf
  have hv' := Lib.hid hv
  have hok' := Lib.hid hok
  clear hv hok
  go_enter Tryz.func18, Tryz.ntmps18
  go_wp2_with fail
  go_loopw [9, 10] (fun u i wr => ∃ k : Nat, k ≤ es.length ∧ i = .int .i64 k ∧ Below w.heap.size w wr ∧ OwnS wr w.heap.size u (allM (es.take k) kind p q)) (fun _ i _ => es.length - (intOf i).toNat)
  case atStart => exact ⟨0, by omega, rfl, Below.refl _ _, World.ownsRow_nil _ _ _ _⟩
  case round =>
    obtain ⟨k, hk0, rfl, hB, hO⟩ := hrel
    have hB' := Lib.hid hB
    have hO' := Lib.hid hO
    clear hB hO
    by_cases hk : k < es.length
    · obtain ⟨ev, hev⟩ : ∃ e, es[k]? = some e := ⟨_, List.getElem?_eq_getElem hk⟩
      have herr := hok'.out ev (List.mem_of_getElem? hev)
      obtain ⟨⟨em1, em2⟩, _, _⟩ := Ev.ok herr
      obtain ⟨va', vc', hform, _, hvf⟩ := hv'.out.form
      cases hform
      obtain ⟨bb, o, cs, rfl, hrg0, hea⟩ := hvf k ev hev
      obtain ⟨v1, v2, v3, v4, v5, v6, v7, v8, v9, v10, v11, v12, v13, v14, v15, v16, g, sv, rfl, hau, hg, hs, _, _⟩ := hea
      have hbb : bb < w.heap.size := World.block_lt_of_cell? w _ (hrg0 0 _ rfl)
      have hnl := Lib.hid (names_len herr kind)
      have hol : Hid ((allM (es.take k) kind p q).length ≤ 50000) := by
        have := allM_len kind p q _ (es.take k) rfl (fun e he => hok'.out e (List.mem_of_mem_take he))
        rw [List.length_take, Nat.min_eq_left hk0] at this
        show _ ≤ _; omega
      have hnextA : Hid (allM (es.take (k + 1)) kind p q = if p ≤ ev.mi / 1440 ∧ ev.mi / 1440 ≤ q then (ev.names kind).foldl insS (allM (es.take k) kind p q) else allM (es.take k) kind p q) := by show _ = _; rw [take_some hev, allM_snoc, allStep]
      obtain ⟨ns, hns⟩ : ∃ ns, ns = ev.names kind := ⟨_, rfl⟩
      obtain ⟨out0, hout⟩ : ∃ x, x = allM (es.take k) kind p q := ⟨_, rfl⟩
      rw [← hns] at hnl hnextA
      rw [← hout] at hol hnextA hO'
      have hns' := Lib.hid hns
      have hau' := Lib.hid hau
      have hg' := Lib.hid hg
      have hs' := Lib.hid hs
      obtain ⟨mi, hmi⟩ : ∃ x, x = ev.mi := ⟨_, rfl⟩
      obtain ⟨b, hb⟩ : ∃ x, x = ev.b := ⟨_, rfl⟩
      rw [← hmi] at em1 em2 hrg0 hnextA
      rw [← hb] at hrg0
      have hdc := fun W => mday_lit mi b v1 v2 v3 v4 v5 v6 v7 v8 v9 v10 v11 v12 v13 v14 v15 v16 g sv W em1 em2
      obtain ⟨d, hd⟩ : ∃ d, d = mi / 1440 := ⟨_, rfl⟩
      rw [← hd] at hdc hnextA
      have hdc' := Lib.hid hdc
      have hrgB : ∀ W, Below w.heap.size w W → W.rangeAt bb (o + k * 20) [.int .i64 mi, v1, v2, v3, v4, v5, v6, v7, v8, v9, v10, v11, v12, v13, v14, v15, v16, g, sv, .int .i64 b] := fun W hW j v hj => (hW.cell (p := ⟨bb, _, none⟩) hbb).trans (hrg0 j v hj)
      have hrgB' := Lib.hid hrgB
      clear hns hout hau hg hs hmi hb hd hdc hrgB hrg0 hvf hev herr
      by_cases h1 : p ≤ d
      · have hdp : decide (d < p) = false := decide_eq_false (by omega)
        go_wp2_with (first | (refine wpList_load_mid rfl 27 _ rfl bb (o + k * 20) rfl _ _ (hrgB'.out _ hB'.out) Tryz.underlying27 rfl rfl ?_) | (refine wpList_load_guard rfl 27 _ rfl bb (o + k * 20) rfl _ _ (hrgB'.out _ hB'.out) Tryz.underlying27 rfl rfl ?_))
        go_at_call 34
        refine (hdc'.out _).mono ?_
        rintro e w1 ⟨rfl, hb1⟩
        have hB1 := Lib.hid (hB'.out.trans (hb1.mono hB'.out.size))
        have hO1 : Hid (OwnS w1 w.heap.size _ out0) := ownsRow_block hO'.out fun g _ hg => hb1.block g hg
        clear hb1
        by_cases h2 : d ≤ q
        · have hdq : decide (q < d) = false := decide_eq_false (by omega)
          rw [if_pos ⟨h1, h2⟩] at hnextA
          go_wp2_with (refine wpList_load_guard rfl 27 _ rfl bb (o + k * 20) rfl _ _ (hrgB'.out _ hB1.out) Tryz.underlying27 rfl rfl ?_)
          go_at_call 34
          refine (hdc'.out _).mono ?_
          rintro e w2 ⟨rfl, hb2⟩
          have hB2 := Lib.hid (hB1.out.trans (hb2.mono hB1.out.size))
          have hO2 : Hid (OwnS w2 w.heap.size _ out0) := ownsRow_block hO1.out fun g _ hg => hb2.block g hg
          have q17 := hrgB'.out w2 hB2.out 17 _ rfl
          have q18 := hrgB'.out w2 hB2.out 18 _ rfl
          clear hb2
          have hkk : kind = 1 ∨ kind = 2 ∨ kind = 3 := by omega
          rcases hkk with rfl | rfl | rfl
          · have hne : Hid (ns = ev.gs) := hns'.out
            have hg2 : SliceStr w g ns := by rw [hne.out]; exact hg'.out
            obtain ⟨xa0, xc0, rfl, _⟩ := hg2.form
            have hg2' := Lib.hid hg2
            clear hg2 q18
            go_wp2_with fail
            have hS0 := Lib.hid (show Below w.heap.size w w2 ∧ SliceStr w2 (.slice xa0 ns.length xc0) ns ∧ OwnS w2 w.heap.size _ out0 from ⟨hB2.out, hg2'.out.below hB2.out, hO2.out⟩)
            clear q17
            go_loopw [9, 12] (fun u j wq => ∃ n : Nat, n ≤ ns.length ∧ j = .int .i64 n ∧ Below w.heap.size w wq ∧ SliceStr wq (.slice xa0 ns.length xc0) ns ∧ OwnS wq w.heap.size u ((ns.take n).foldl insS out0)) (fun _ j _ => ns.length - (intOf j).toNat)
            case atStart => exact ⟨0, by omega, rfl, hS0.out.1, hS0.out.2.1, hS0.out.2.2⟩
            case round =>
              obtain ⟨n, hn0, rfl, hB, hx, hO⟩ := hrel
              have hB' := Lib.hid hB
              have hx' := Lib.hid hx
              have hO' := Lib.hid hO
              clear hB hx hO
              have hnl2 : ns.length ≤ 50 := hnl.out
              by_cases hn : n < ns.length
              · obtain ⟨xa, xc, hform, hcells⟩ := hx'.out.form
                cases hform
                obtain ⟨bx, ox, rfl, hc⟩ := hcells n hn
                obtain ⟨z, hz⟩ : ∃ z, z = ns.getD n ByteArray.empty := ⟨_, rfl⟩
                rw [← hz] at hc
                have hnext : Hid ((ns.take (n + 1)).foldl insS out0 = insS ((ns.take n).foldl insS out0) z) := by show _ = _; rw [take_getD (d := ByteArray.empty) hn, List.foldl_append, hz]; rfl
                have hle := foldIns_len (ns.take n) out0
                rw [List.length_take, Nat.min_eq_left hn0] at hle
                obtain ⟨cur, hcur⟩ : ∃ c, c = (ns.take n).foldl insS out0 := ⟨_, rfl⟩
                rw [← hcur] at hO' hnext hle
                have hcl : cur.length ≤ 100000 := by have := hol.out; have := hnl.out; omega
                clear hz hcells hle hcur
                go_wp2_with (go_at_call 37; fail)
                refine (insert_any _ cur z _ w.heap.size hO'.out hB'.out.size hcl).mono ?_
                rintro e w9 ⟨u, rfl, hO9, hb9⟩
                have hO9' := Lib.hid hO9
                have hb9' := Lib.hid hb9
                clear hO9 hb9
                go_wp2_with fail
                exact ⟨⟨n + 1, by omega, by go_num, hB'.out.trans (hb9'.out.mono hB'.out.size), hx'.out.below hb9'.out, by rw [hnext.out]; exact hO9'.out⟩, by simp [intOf]; omega⟩
              · obtain rfl : n = ns.length := by omega
                rw [List.take_length] at hO'
                go_wp2_with fail
                exact ⟨⟨k + 1, by omega, by go_num, hB'.out, by rw [hnextA.out]; exact hO'.out⟩, by simp [intOf]; omega⟩
          · have hne : Hid (ns = ev.ss) := hns'.out
            have hg2 : SliceStr w sv ns := by rw [hne.out]; exact hs'.out
            obtain ⟨xa0, xc0, rfl, _⟩ := hg2.form
            have hg2' := Lib.hid hg2
            clear hg2
            go_wp2_with fail
            have hS0 := Lib.hid (show Below w.heap.size w w2 ∧ SliceStr w2 (.slice xa0 ns.length xc0) ns ∧ OwnS w2 w.heap.size _ out0 from ⟨hB2.out, hg2'.out.below hB2.out, hO2.out⟩)
            clear q17 q18
            go_loopw [9, 12] (fun u j wq => ∃ n : Nat, n ≤ ns.length ∧ j = .int .i64 n ∧ Below w.heap.size w wq ∧ SliceStr wq (.slice xa0 ns.length xc0) ns ∧ OwnS wq w.heap.size u ((ns.take n).foldl insS out0)) (fun _ j _ => ns.length - (intOf j).toNat)
            case atStart => exact ⟨0, by omega, rfl, hS0.out.1, hS0.out.2.1, hS0.out.2.2⟩
            case round =>
              obtain ⟨n, hn0, rfl, hB, hx, hO⟩ := hrel
              have hB' := Lib.hid hB
              have hx' := Lib.hid hx
              have hO' := Lib.hid hO
              clear hB hx hO
              have hnl2 : ns.length ≤ 50 := hnl.out
              by_cases hn : n < ns.length
              · obtain ⟨xa, xc, hform, hcells⟩ := hx'.out.form
                cases hform
                obtain ⟨bx, ox, rfl, hc⟩ := hcells n hn
                obtain ⟨z, hz⟩ : ∃ z, z = ns.getD n ByteArray.empty := ⟨_, rfl⟩
                rw [← hz] at hc
                have hnext : Hid ((ns.take (n + 1)).foldl insS out0 = insS ((ns.take n).foldl insS out0) z) := by show _ = _; rw [take_getD (d := ByteArray.empty) hn, List.foldl_append, hz]; rfl
                have hle := foldIns_len (ns.take n) out0
                rw [List.length_take, Nat.min_eq_left hn0] at hle
                obtain ⟨cur, hcur⟩ : ∃ c, c = (ns.take n).foldl insS out0 := ⟨_, rfl⟩
                rw [← hcur] at hO' hnext hle
                have hcl : cur.length ≤ 100000 := by have := hol.out; have := hnl.out; omega
                clear hz hcells hle hcur
                go_wp2_with (go_at_call 37; fail)
                refine (insert_any _ cur z _ w.heap.size hO'.out hB'.out.size hcl).mono ?_
                rintro e w9 ⟨u, rfl, hO9, hb9⟩
                have hO9' := Lib.hid hO9
                have hb9' := Lib.hid hb9
                clear hO9 hb9
                go_wp2_with fail
                exact ⟨⟨n + 1, by omega, by go_num, hB'.out.trans (hb9'.out.mono hB'.out.size), hx'.out.below hb9'.out, by rw [hnext.out]; exact hO9'.out⟩, by simp [intOf]; omega⟩
              · obtain rfl : n = ns.length := by omega
                rw [List.take_length] at hO'
                go_wp2_with fail
                exact ⟨⟨k + 1, by omega, by go_num, hB'.out, by rw [hnextA.out]; exact hO'.out⟩, by simp [intOf]; omega⟩
          · have hrow : w2.rangeAt bb (o + k * 20 + 1) [v1, v2, v3, v4, v5, v6, v7, v8, v9, v10, v11, v12, v13, v14, v15, v16] := fun j v hj => by
              have := hrgB'.out w2 hB2.out (j + 1) v (show ([v1, v2, v3, v4, v5, v6, v7, v8, v9, v10, v11, v12, v13, v14, v15, v16] ++ [g, sv, .int .i64 b])[j]? = some v by rw [List.getElem?_append_left (List.getElem?_eq_some_iff.1 hj).1]; exact hj)
              rw [show o + k * 20 + 1 + j = o + k * 20 + (j + 1) by omega]; exact this
            have hrow' := Lib.hid hrow
            clear hrow
            go_wp2_with (refine wpList_load_mid rfl 24 _ rfl bb (o + k * 20 + 1) rfl _ _ hrow'.out Tryz.underlying24 rfl rfl ?_)
            go_at_call 29
            refine (refauthor_lit v1 v2 v3 v4 v5 v6 v7 v8 v9 v10 v11 v12 v13 v14 v15 v16 ev.au hau'.out _).mono ?_
            rintro e w6 ⟨rfl, hb6⟩
            obtain ⟨tx, htx⟩ : ∃ t, t = auText ev.au := ⟨_, rfl⟩
            have hne : ns = [tx] := by rw [hns'.out, htx]; rfl
            subst hne
            rw [← htx]
            have htz : tx.size ≤ 9223372036854775807 := by rw [htx]; exact auText_le (by have := congrArg List.length hau'.out; simpa [byteVals] using this.symm)
            have hB6 := Lib.hid (hB2.out.trans (hb6.mono hB2.out.size))
            have hO6 : Hid (OwnS w6 w.heap.size _ out0) := ownsRow_block hO2.out fun g _ hg => hb6.block g hg
            clear hb6 htx q17 q18
            have hsl0 : SliceStr (w6.alloc (.cells #[.string tx] 9)) (.slice (some ⟨w6.heap.size, 0, none⟩) [tx].length 1) [tx] := by
              refine Or.inr ⟨w6.heap.size, 0, 1, rfl, Nat.le_refl 1, ⟨by decide, by show 1 ≤ 9223372036854775807; decide⟩, by simp, fun k hk => ?_, fun z hz => ?_⟩
              · obtain rfl : k = 0 := by simp at hk; omega
                rw [cell_of_row _ _ _ _ _ _ (heap_alloc_new w6 _)]; rfl
              · rw [List.mem_singleton.1 hz]; exact htz
            obtain ⟨W7, hW7⟩ : ∃ W7, W7 = w6.alloc (.cells #[.string tx] 9) := ⟨_, rfl⟩
            have hS0 := Lib.hid (show Below w.heap.size w W7 ∧ SliceStr W7 (.slice (some ⟨w6.heap.size, 0, none⟩) [tx].length 1) [tx] ∧ OwnS W7 w.heap.size _ out0 from ⟨by rw [hW7]; exact hB6.out.alloc hB6.out.size _, by rw [hW7]; exact hsl0, by rw [hW7]; exact hO6.out.alloc _⟩)
            have hW7' := Lib.hid hW7
            clear hsl0 htz hW7
            go_wp2_with fail
            rw [← hW7'.out]
            go_loopw [9, 12] (fun u j wq => ∃ n : Nat, n ≤ 1 ∧ j = .int .i64 n ∧ Below w.heap.size w wq ∧ SliceStr wq (.slice (some ⟨w6.heap.size, 0, none⟩) [tx].length 1) [tx] ∧ OwnS wq w.heap.size u (([tx].take n).foldl insS out0)) (fun _ j _ => 1 - (intOf j).toNat)
            case atStart => exact ⟨0, by omega, rfl, hS0.out.1, hS0.out.2.1, hS0.out.2.2⟩
            case round =>
              obtain ⟨n, hn0, rfl, hB, hx, hO⟩ := hrel
              have hB' := Lib.hid hB
              have hx' := Lib.hid hx
              have hO' := Lib.hid hO
              clear hB hx hO
              by_cases hn : n < 1
              · obtain rfl : n = 0 := by omega
                obtain ⟨xa, xc, hform, hcells⟩ := hx'.out.form
                cases hform
                obtain ⟨bx, ox, hbx, hc⟩ := hcells 0 (by simp)
                cases hbx
                have hc1 := show World.cell? _ ⟨w6.heap.size, 0, none⟩ = some (.string tx) from hc
                have hcl : out0.length ≤ 100000 := by have := hol.out; omega
                clear hcells hc
                go_wp2_with (go_at_call 37; fail)
                refine (insert_any _ out0 tx _ w.heap.size hO'.out hB'.out.size hcl).mono ?_
                rintro e w9 ⟨u, rfl, hO9, hb9⟩
                have hO9' := Lib.hid hO9
                have hb9' := Lib.hid hb9
                clear hO9 hb9
                go_wp2_with fail
                exact ⟨⟨1, by omega, by go_num, hB'.out.trans (hb9'.out.mono hB'.out.size), hx'.out.below hb9'.out, hO9'.out⟩, by simp [intOf]⟩
              · obtain rfl : n = 1 := by omega
                go_wp2_with fail
                exact ⟨⟨k + 1, by omega, by go_num, hB'.out, by rw [hnextA.out]; exact hO'.out⟩, by simp [intOf]; omega⟩
        · have hdq : decide (q < d) = true := decide_eq_true (by omega)
          rw [if_neg (by omega)] at hnextA
          go_wp2_with (first | (refine wpList_load_guard rfl 27 _ rfl bb (o + k * 20) rfl _ _ (hrgB'.out _ hB1.out) Tryz.underlying27 rfl rfl ?_))
          go_at_call 34
          refine (hdc'.out _).mono ?_
          rintro e w2 ⟨rfl, hb2⟩
          have hB2 := Lib.hid (hB1.out.trans (hb2.mono hB1.out.size))
          have hO2 : Hid (OwnS w2 w.heap.size _ out0) := ownsRow_block hO1.out fun g _ hg => hb2.block g hg
          clear hb2
          go_wp2_with fail
          exact ⟨⟨k + 1, by omega, by go_num, hB2.out, by rw [hnextA.out]; exact hO2.out⟩, by simp [intOf]; omega⟩
      · have hdp : decide (d < p) = true := decide_eq_true (by omega)
        rw [if_neg (by omega)] at hnextA
        go_wp2_with (first | (refine wpList_load_mid rfl 27 _ rfl bb (o + k * 20) rfl _ _ (hrgB'.out _ hB'.out) Tryz.underlying27 rfl rfl ?_))
        go_at_call 34
        refine (hdc'.out _).mono ?_
        rintro e w1 ⟨rfl, hb1⟩
        have hB1 := Lib.hid (hB'.out.trans (hb1.mono hB'.out.size))
        have hO1 : Hid (OwnS w1 w.heap.size _ out0) := ownsRow_block hO'.out fun g _ hg => hb1.block g hg
        clear hb1
        go_wp2_with fail
        exact ⟨⟨k + 1, by omega, by go_num, hB1.out, by rw [hnextA.out]; exact hO1.out⟩, by simp [intOf]; omega⟩
    · obtain rfl : k = es.length := by omega
      rw [List.take_length] at hO'
      go_wp2_with fail
      go_ret
      exact ⟨_, rfl, hO'.out, hB'.out⟩
end Go.Proofs.YtlemadbmlnjhpaaGreatDoor
namespace Go.Proofs.YtlemadbmlnjhpaaGreatDoor
open Go Go.RowKit Go.Proofs
set_option linter.unusedSimpArgs false
set_option linter.unusedVariables false

theorem add_lists (x y : List UInt8) (h : x.length + y.length ≤ 4611686018427387904) (W : World) : (Op.stringOp .add ⟨x.toArray⟩ ⟨y.toArray⟩).run Tryz.prog W = .ok (.string ⟨(x ++ y).toArray⟩) W := by
  rw [run_string_add_sum (P := Tryz.prog) W _ _ (by rw [bsize, bsize]; omega), ByteArray.mk_append_mk]
theorem lineM_len (s : List UInt8) {c : Cnt} (h1 : 0 ≤ c.1 ∧ c.1 ≤ 1000000000000000) (h2 : 0 ≤ c.2 ∧ c.2 ≤ 1000000000000000) : (lineM s c).length ≤ s.length + 60 := by
  have a3 := Lib.itoa_length_le c.1 (by omega) (by omega)
  have a4 := Lib.itoa_length_le c.2 (by omega) (by omega)
  unfold lineM
  simp only [List.length_append, List.length_singleton]
  omega
/-- the names' lines of the kinds before a kind -/
def namesTo (es : List Ev) (d : Int) : Nat → List UInt8
  | 0 => []
  | 1 => []
  | n + 2 => namesTo es d (n + 1) ++ namesM es d (n + 1 : Nat)
theorem namesTo_succ (es : List Ev) (d : Int) {n : Nat} (h : 1 ≤ n) : namesTo es d (n + 1) = namesTo es d n ++ namesM es d n := by
  obtain ⟨m, rfl⟩ : ∃ m, n = m + 1 := ⟨n - 1, by omega⟩
  rfl
theorem namesTo_four (es : List Ev) (d : Int) : namesTo es d 4 = namesM es d 1 ++ namesM es d 2 ++ namesM es d 3 := by simp [namesTo]
theorem dayM_eq (es : List Ev) (before d : Int) (kn : Nat) (h1 : 1 ≤ kn) (h : kn = 4 ∨ d < before) (h2 : before ≤ d ∨ kn = 1) : dayM es before d = lineM (wDay ++ [32] ++ Lib.itoa d) (ofM es 0 ByteArray.empty d d) ++ namesTo es d kn := by
  unfold dayM
  by_cases hb : before ≤ d
  · obtain rfl : kn = 4 := by omega
    rw [if_pos hb, namesTo_four]
  · obtain rfl : kn = 1 := by omega
    rw [if_neg hb]; rfl
abbrev wordsA : Array Value := #[.string { data := #[] }, .string { data := #[103, 114, 111, 117, 112, 32] }, .string { data := #[115, 105, 116, 101, 32] }, .string { data := #[97, 117, 116, 104, 111, 114, 32] }]
/-- between two lines -/
structure TxtAt (w wr : World) (dv : Value) (ds : List Int) (wb : Nat) : Prop where
  bel : Below w.heap.size w wr
  days : SliceInt wr dv ds
  wrd : wr.heap[wb]? = some (.cells wordsA 9 (0, 0))
theorem TxtAt.below {w wr w' : World} {dv : Value} {ds : List Int} {wb : Nat} (h : TxtAt w wr dv ds wb) (hb : Below wr.heap.size wr w') : TxtAt w w' dv ds wb :=
  ⟨h.bel.trans (hb.mono h.bel.size), h.days.below hb, (hb.block _ (Array.getElem?_eq_some_iff.1 h.wrd).1).trans h.wrd⟩
theorem TxtAt.word {w wr : World} {dv : Value} {ds : List Int} {wb kn : Nat} (h : TxtAt w wr dv ds wb) (h1 : 1 ≤ kn) (h3 : kn ≤ 3) : wr.cell? ⟨wb, kn, none⟩ = some (bytesV (kindWord kn ++ [32])) := by
  rw [cell_of_row _ _ _ _ _ _ h.wrd]
  have : kn = 1 ∨ kn = 2 ∨ kn = 3 := by omega
  rcases this with rfl | rfl | rfl <;> rfl
theorem name_size {es : List Ev} (hok : ∀ e ∈ es, e.err = 0) (hau : ∀ e ∈ es, e.au.length = 16) {kind p q : Int} (h1 : 1 ≤ kind) (h3 : kind ≤ 3) : ∀ z ∈ allM es kind p q, z.size ≤ 1000 := fun z hz => by
  obtain ⟨e, he, _, hn⟩ := mem_allM.1 hz
  have hk : ((e.mi / 1440, kind, z) : Key) ∈ e.keys := by
    have : kind = 1 ∨ kind = 2 ∨ kind = 3 := by omega
    rcases this with rfl | rfl | rfl
    · exact mem_evkeys.2 (.inr (.inl ⟨z, by simpa [Ev.names] using hn, rfl⟩))
    · exact mem_evkeys.2 (.inr (.inr (.inl ⟨z, by simpa [Ev.names] using hn, rfl⟩)))
    · have h4 : z = auText e.au := by simpa [Ev.names] using hn
      exact mem_evkeys.2 (.inr (.inr (.inr (by rw [h4]))))
  exact (keyOk_ev (hok e he) (hau e he) _ hk).2.2
theorem bytes_list (z : ByteArray) : ∃ zl : List UInt8, z = ⟨zl.toArray⟩ := ⟨z.data.toList, ByteArray.ext (by simp)⟩
theorem kindWord_len1 (k : Int) : (kindWord k ++ [32]).length ≤ 7 := by
  have := kindWord_len k
  rw [List.length_append, List.length_singleton]; omega
theorem getD_mem_of {α : Type} {l : List α} {n : Nat} {d : α} (h : n < l.length) : l.getD n d ∈ l := by
  rw [List.getD_eq_getElem?_getD, List.getElem?_eq_getElem h, Option.getD_some]; exact List.getElem_mem _
theorem OwnS.below {W W' : World} {base : Nat} {v : Value} {xs : List ByteArray} (h : OwnS W base v xs) (hb : Below W.heap.size W W') : OwnS W' base v xs := ownsRow_block h fun g _ hg => hb.block g hg
theorem OwnS.form {W : World} {base : Nat} {v : Value} {xs : List ByteArray} (h : OwnS W base v xs) : ∃ A c, v = .slice A xs.length c ∧ ∀ j, j < xs.length → ∃ b o, A = some ⟨b, o, none⟩ ∧ W.cell? ⟨b, o + j, none⟩ = some (.string (xs.getD j ByteArray.empty)) := by
  have hxl : (strV xs).length = xs.length := by simp [strV]
  obtain ⟨A, c, rfl, hcell⟩ := own_form (xs := strV xs) (by rw [hxl]; exact h)
  exact ⟨A, c, by rw [hxl], fun j hj => hcell j _ (by simp [strV, List.getD_eq_getElem?_getD, List.getElem?_eq_getElem hj])⟩
theorem lineZ_eq (s : List UInt8) (n : Nat) (z : Int) : s ++ lineZ n z = s ++ [115, 105, 122, 101, 32] ++ Lib.itoa n ++ [32] ++ Lib.itoa z ++ [10] := by
  unfold lineZ wSize
  simp [Lib.join, List.intercalate, List.intersperse]
end Go.Proofs.YtlemadbmlnjhpaaGreatDoor
