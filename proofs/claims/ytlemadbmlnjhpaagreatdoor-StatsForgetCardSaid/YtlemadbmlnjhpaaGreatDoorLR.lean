/- The model's insert. -/
import Derived.Test.YtlemadbmlnjhpaaGreatDoorLQ
import Derived.Test.YtlemadbmlnjhpaaGreatDoorLB
namespace Go.Proofs.YtlemadbmlnjhpaaGreatDoor
open Go Go.RowKit Go.Proofs
set_option linter.unusedSimpArgs false
set_option linter.unusedVariables false

theorem atS_lt {s : ByteArray} : ∀ {l : List ByteArray} {j : Nat}, j < atS s l → ∃ x, l[j]? = some x ∧ cbK x s < 0
  | [], j, h => by simp [atS] at h
  | x :: r, j, h => by
    unfold atS at h
    split at h
    · rename_i hx
      cases j with
      | zero => exact ⟨x, rfl, hx⟩
      | succ j => simpa using atS_lt (l := r) (j := j) (by omega)
    · omega
theorem atS_at {s : ByteArray} : ∀ {l : List ByteArray} {x : ByteArray}, l[atS s l]? = some x → ¬ cbK x s < 0
  | [], x, h => by simp at h
  | y :: r, x, h => by
    unfold atS at h
    split at h
    · rw [List.getElem?_cons_succ] at h; exact atS_at h
    · rename_i hx
      obtain rfl : y = x := by simpa using h
      exact hx
theorem less_cb : ∀ (a b : List UInt8), Op.bytesLess a b = decide (Lib.compareBytes a b < 0)
  | [], [] => by simp [Op.bytesLess, Lib.compareBytes]
  | [], _ :: _ => by simp [Op.bytesLess, Lib.compareBytes]
  | _ :: _, [] => by simp [Op.bytesLess, Lib.compareBytes]
  | x :: xs, y :: ys => by
    have ih := less_cb xs ys
    rw [Op.bytesLess, Lib.compareBytes, ih]
    rcases u8_trich x y with h | rfl | h
    · rw [if_pos h]; simp [h]
    · rw [if_neg (u8_irrefl x), if_neg (u8_irrefl x)]; simp [u8_irrefl]
    · have hne : (x == y) = false := beq_eq_false_iff_ne.2 (fun he => by subst he; exact u8_irrefl _ h)
      rw [if_neg (u8_asymm h), if_pos h, hne]; simp [u8_asymm h]
theorem less_cbK (a b : ByteArray) : Op.bytesLess a.toList b.toList = decide (cbK a b < 0) := by
  rw [less_cb, ByteArray.toList_eq, ByteArray.toList_eq]; rfl
/-- strings that a call owns -/
abbrev strV (l : List ByteArray) : List Value := l.map Value.string
theorem own_form {W : World} {v : Value} {xs : List Value} {base : Nat} {e : TypeId} (h : W.ownsRow base e 1 v xs.length xs) :
    ∃ A c, v = .slice A xs.length c ∧ ∀ j y, xs[j]? = some y → ∃ b o, A = some ⟨b, o, none⟩ ∧ W.cell? ⟨b, o + j, none⟩ = some y := by
  rcases h.2 with ⟨rfl, h0⟩ | ⟨g, cap, cur, rfl, hb', hg, h4, h5, h6, h7⟩
  · have hx : xs = [] := List.eq_nil_of_length_eq_zero h0
    subst hx
    exact ⟨none, 0, rfl, fun j y hj => by simp at hj⟩
  · refine ⟨some ⟨g, 0, none⟩, cap, rfl, fun j y hj => ⟨g, 0, rfl, ?_⟩⟩
    rw [Nat.zero_add, h.cellAt j (by have := (List.getElem?_eq_some_iff.1 hj).1; omega)]; exact hj
abbrev OwnS (W : World) (base : Nat) (v : Value) (xs : List ByteArray) : Prop := W.ownsRow base 9 1 v xs.length (strV xs)
theorem bytes_eq_toList {a b : ByteArray} : (a.toList == b.toList) = decide (a = b) := by
  by_cases h : a = b
  · subst h; simp
  · rw [decide_eq_false h]
    exact beq_eq_false_iff_ne.2 fun he => h (bytes_beq_true (by rw [he]; simp))

theorem ins_own {w wE : World} {base k : Nat} {vE : Value} {xs : List ByteArray} {s : ByteArray} (hend : insS xs s = xs.take k ++ [s] ++ xs.drop k) (hk : k ≤ xs.length) (hbase : base ≤ w.heap.size)
    (ho : wE.ownsRow w.heap.size 9 1 vE (0 + k + 1 + (xs.length - k)) ([] ++ (strV xs).take k ++ [.string s] ++ (strV xs).drop k)) : OwnS wE base vE (insS xs s) := by
  have e : strV (insS xs s) = [] ++ (strV xs).take k ++ [.string s] ++ (strV xs).drop k := by
    rw [hend]; simp [strV, List.map_take, List.map_drop]
  have e2 : (insS xs s).length = 0 + k + 1 + (xs.length - k) := by rw [hend]; simp; omega
  unfold OwnS
  rw [e2, e]
  exact ownsRow_base_a ho hbase
set_option maxRecDepth 100000 in
set_option maxHeartbeats 3200000 in
theorem insert_any (v : Value) (xs : List ByteArray) (s : ByteArray) (w : World) (base : Nat) (h : OwnS w base v xs) (hbase : base ≤ w.heap.size) (hl : xs.length ≤ 100000) :
    Calls Tryz.prog 37 #[v, .string s] w fun e w' => ∃ u, e = .returned u ∧ OwnS w' base u (insS xs s) ∧ Below w.heap.size w w' := by
  obtain ⟨i0, hi, hz0, hz1, hz2⟩ := info_parts Tryz.infoStr
  have hi' := Lib.hid hi
  have hz0' := Lib.hid hz0
  have hz1' := Lib.hid hz1
  have hz2' := Lib.hid hz2
  have h' := Lib.hid h
  have hxl : (strV xs).length = xs.length := by simp [strV]
  obtain ⟨A, c, rfl, hcell⟩ := own_form (xs := strV xs) (by rw [hxl]; exact h)
  rw [hxl] at h' ⊢
  have hcell2 : ∀ j x, xs[j]? = some x → ∃ b o, A = some ⟨b, o, none⟩ ∧ w.cell? ⟨b, o + j, none⟩ = some (.string x) := fun j x hj => hcell j _ (by simp [strV, hj])
  have hcell' := Lib.hid hcell2
  have hxl' := Lib.hid hxl
  clear hi hz0 hz1 hz2 h hcell hcell2 hxl
  go_enter Tryz.func37, Tryz.ntmps37
  go_wp2_with fail
  go_loop [5] (fun i => ∃ j : Nat, j ≤ atS s xs ∧ i = .int .i64 j) (fun i => atS s xs - (intOf i).toNat)
  case atStart => exact ⟨0, by omega, rfl⟩
  case round =>
    obtain ⟨j, hj0, rfl⟩ := hrel
    have hat := atS_le s xs
    by_cases hj : j < atS s xs
    · obtain ⟨x, hx, hlt⟩ := atS_lt hj
      obtain ⟨b, o, rfl, hc⟩ := hcell'.out j x hx
      have hless : Op.bytesLess x.toList s.toList = true := by rw [less_cbK, decide_eq_true hlt]
      have hjl : j < xs.length := by omega
      clear hx hlt
      go_wp2_with fail
      exact ⟨⟨j + 1, by omega, by go_num⟩, by simp [intOf]; omega⟩
    · obtain rfl : j = atS s xs := by omega
      have hins : insS xs s = if xs[atS s xs]? = some s then xs else xs.take (atS s xs) ++ [s] ++ xs.drop (atS s xs) := rfl
      have hatx := fun x => atS_at (s := s) (l := xs) (x := x)
      obtain ⟨k, hk⟩ : ∃ k, k = atS s xs := ⟨_, rfl⟩
      rw [← hk] at hat hins hatx hj0 ⊢
      have hins' := Lib.hid hins
      have hatx' := Lib.hid hatx
      clear hins hatx hk hj hj0
      have hrest : ∀ (K : Prop), K → K := fun _ h => h
      by_cases hkl : k < xs.length
      · obtain ⟨x, hx⟩ : ∃ x, xs[k]? = some x := ⟨_, List.getElem?_eq_getElem hkl⟩
        obtain ⟨b, o, rfl, hc⟩ := hcell'.out k x hx
        have hless : Op.bytesLess x.toList s.toList = false := by rw [less_cbK, decide_eq_false (hatx'.out x hx)]
        have heq := bytes_eq_toList (a := x) (b := s)
        have hx' := Lib.hid hx
        clear hx
        by_cases hxs : x = s
        · rw [decide_eq_true hxs] at heq
          have hend : Hid (insS xs s = xs) := by show _ = _; rw [hins'.out, if_pos (by rw [hx'.out, hxs])]
          clear hxs
          go_wp2_with fail
          go_ret
          exact ⟨_, rfl, by rw [hend.out]; exact h'.out, Below.refl _ _⟩
        · rw [decide_eq_false hxs] at heq
          have hend : Hid (insS xs s = xs.take k ++ [s] ++ xs.drop k) := by show _ = _; rw [hins'.out, if_neg (by rw [hx'.out]; simpa using hxs)]
          clear hxs
          obtain ⟨A', n', c', hform2, hn', hcn, hcm, hs1, hs2⟩ := sliced_src (xs := strV xs) (by rw [hxl'.out]; exact h'.out) (k := k) (by rw [hxl'.out]; exact hat)
          rw [hxl'.out] at hn'
          cases hform2
          have hr1 := fun W => run_slice_hi (P := Tryz.prog) W 25 (by kernel_rfl) (fun w => by kernel_rfl) (some ⟨b, o, none⟩) xs.length c k (by omega)
          have hr2 := fun W => run_slice_lo (P := Tryz.prog) W 25 (by kernel_rfl) (fun w => by kernel_rfl) (some ⟨b, o, none⟩) xs.length c k (by omega)
          obtain ⟨U1, hU1⟩ : ∃ U, U = sliced (some ⟨b, o, none⟩) 0 k c 1 := ⟨_, rfl⟩
          obtain ⟨U2, hU2⟩ : ∃ U, U = sliced (some ⟨b, o, none⟩) k xs.length c 1 := ⟨_, rfl⟩
          rw [← hU1] at hr1 hs1
          rw [← hU2] at hr2 hs2
          have hs1' := Lib.hid hs1
          have hs2' := Lib.hid hs2
          have hhat := Lib.hid hat
          clear hs1 hs2 hU1 hU2 hcn hcm hn' hat
          go_wp2_with fail
          have hone1 : ∀ u ∈ (strV xs).take k, u.oneCell' = true := fun u hu => by
            obtain ⟨x, _, rfl⟩ := List.mem_map.1 (List.mem_of_mem_take hu); rfl
          have hone2 : ∀ u ∈ (strV xs).drop k, u.oneCell' = true := fun u hu => by
            obtain ⟨x, _, rfl⟩ := List.mem_map.1 (List.mem_of_mem_drop hu); rfl
          have hone1' := Lib.hid hone1
          have hone2' := Lib.hid hone2
          clear hone1 hone2
          go_region_held3 (fun W' => Below w.heap.size w W') (first | assumption | exact (Below.refl _ _).drew | exact Below.alloc (by assumption) (Below.size (by assumption)) _)
            (first
              | ((refine step_append_bel (o := ⟨some 37, _, _, _, _, _⟩) _ (by rfl) _ _ 25 (by rfl) w (by assumption) 9 i0 _ 1 16 Tryz.underlying25 hi'.out hz0'.out hz1'.out hz2'.out rfl (by omega) _ 0 [] (by rfl) (own_empty (by first | exact heap_alloc2_new _ _ _ | exact heap_alloc2_old _ _ _ | exact heap_alloc_new _ _) (by first | exact Nat.le_refl _ | omega)) U1 k _ (by rfl) (hs1'.out.below (by assumption)) hone1'.out (by have := hhat.out; omega) (by omega) ?_; intro vB wB hownB hbB hgB hatB))
              | ((refine step_append_bel (o := ⟨some 40, _, _, _, _, _⟩) _ (by rfl) _ _ 25 (by rfl) w (by assumption) 9 i0 _ 1 16 Tryz.underlying25 hi'.out hz0'.out hz1'.out hz2'.out rfl (by omega) vB (0 + k) _ (by rfl) (by first | exact hownB | exact hownB.alloc _) _ 1 [.string s] (by rfl) (by first | exact src_block (heap_alloc_new _ _) rfl | exact src_block ((hgB.block _ (by simp) (by simp [Value.ownBlock])).trans (heap_alloc2_new _ _ _)) rfl | exact src_block ((hgB.block _ (by simp <;> omega) (by simp [Value.ownBlock])).trans (heap_alloc2_old _ _ _)) rfl) (by simp [Value.oneCell']) (by have := hhat.out; omega) (by omega) ?_; intro vD wD hownD hbD hgD hatD))
              | ((refine step_append_bel (o := ⟨some 44, _, _, _, _, _⟩) _ (by rfl) _ _ 25 (by rfl) w (by assumption) 9 i0 _ 1 16 Tryz.underlying25 hi'.out hz0'.out hz1'.out hz2'.out rfl (by omega) vD (0 + k + 1) _ (by rfl) hownD U2 (xs.length - k) _ (by rfl) (hs2'.out.below (by assumption)) hone2'.out (by have := hhat.out; omega) (by omega) ?_; intro vE wE hownE hbE hgE hatE)))
          all_goals
            go_wp2_with fail
            go_ret
            exact ⟨_, rfl, ins_own hend.out hhat.out hbase hownE, hbE⟩
      · obtain rfl : k = xs.length := by omega
        have hend : Hid (insS xs s = xs.take xs.length ++ [s] ++ xs.drop xs.length) := by show _ = _; rw [hins'.out, if_neg (by rw [List.getElem?_eq_none (by omega)]; simp)]
        obtain ⟨A', n', c', hform2, hn', hcn, hcm, hs1, hs2⟩ := sliced_src (xs := strV xs) (by rw [hxl'.out]; exact h'.out) (k := xs.length) (by rw [hxl'.out]; exact hat)
        rw [hxl'.out] at hn'
        cases hform2
        have hr1 := fun W => run_slice_hi (P := Tryz.prog) W 25 (by kernel_rfl) (fun w => by kernel_rfl) A xs.length c xs.length (by omega)
        have hr2 := fun W => run_slice_lo (P := Tryz.prog) W 25 (by kernel_rfl) (fun w => by kernel_rfl) A xs.length c xs.length (by omega)
        obtain ⟨U1, hU1⟩ : ∃ U, U = sliced A 0 xs.length c 1 := ⟨_, rfl⟩
        obtain ⟨U2, hU2⟩ : ∃ U, U = sliced A xs.length xs.length c 1 := ⟨_, rfl⟩
        rw [← hU1] at hr1 hs1
        rw [← hU2] at hr2 hs2
        have hs1' := Lib.hid hs1
        have hs2' := Lib.hid hs2
        have hhat := Lib.hid hat
        clear hs1 hs2 hU1 hU2 hcn hcm hn' hat
        go_wp2_with fail
        have hone1 : ∀ u ∈ (strV xs).take xs.length, u.oneCell' = true := fun u hu => by
          obtain ⟨x, _, rfl⟩ := List.mem_map.1 (List.mem_of_mem_take hu); rfl
        have hone2 : ∀ u ∈ (strV xs).drop xs.length, u.oneCell' = true := fun u hu => by
          obtain ⟨x, _, rfl⟩ := List.mem_map.1 (List.mem_of_mem_drop hu); rfl
        have hone1' := Lib.hid hone1
        have hone2' := Lib.hid hone2
        clear hone1 hone2
        go_region_held3 (fun W' => Below w.heap.size w W') (first | assumption | exact (Below.refl _ _).drew | exact Below.alloc (by assumption) (Below.size (by assumption)) _)
          (first
            | ((refine step_append_bel (o := ⟨some 37, _, _, _, _, _⟩) _ (by rfl) _ _ 25 (by rfl) w (by assumption) 9 i0 _ 1 16 Tryz.underlying25 hi'.out hz0'.out hz1'.out hz2'.out rfl (by omega) _ 0 [] (by rfl) (own_empty (by first | exact heap_alloc2_new _ _ _ | exact heap_alloc2_old _ _ _ | exact heap_alloc_new _ _) (by first | exact Nat.le_refl _ | omega)) U1 xs.length _ (by rfl) (hs1'.out.below (by assumption)) hone1'.out (by have := hhat.out; omega) (by omega) ?_; intro vB wB hownB hbB hgB hatB))
            | ((refine step_append_bel (o := ⟨some 40, _, _, _, _, _⟩) _ (by rfl) _ _ 25 (by rfl) w (by assumption) 9 i0 _ 1 16 Tryz.underlying25 hi'.out hz0'.out hz1'.out hz2'.out rfl (by omega) vB (0 + xs.length) _ (by rfl) (by first | exact hownB | exact hownB.alloc _) _ 1 [.string s] (by rfl) (by first | exact src_block (heap_alloc_new _ _) rfl | exact src_block ((hgB.block _ (by simp) (by simp [Value.ownBlock])).trans (heap_alloc2_new _ _ _)) rfl | exact src_block ((hgB.block _ (by simp <;> omega) (by simp [Value.ownBlock])).trans (heap_alloc2_old _ _ _)) rfl) (by simp [Value.oneCell']) (by have := hhat.out; omega) (by omega) ?_; intro vD wD hownD hbD hgD hatD))
            | ((refine step_append_bel (o := ⟨some 44, _, _, _, _, _⟩) _ (by rfl) _ _ 25 (by rfl) w (by assumption) 9 i0 _ 1 16 Tryz.underlying25 hi'.out hz0'.out hz1'.out hz2'.out rfl (by omega) vD (0 + xs.length + 1) _ (by rfl) hownD U2 (xs.length - xs.length) _ (by rfl) (hs2'.out.below (by assumption)) hone2'.out (by have := hhat.out; omega) (by omega) ?_; intro vE wE hownE hbE hgE hatE)))
        all_goals
          go_wp2_with fail
          go_ret
          exact ⟨_, rfl, ins_own hend.out hhat.out hbase hownE, hbE⟩
end Go.Proofs.YtlemadbmlnjhpaaGreatDoor
