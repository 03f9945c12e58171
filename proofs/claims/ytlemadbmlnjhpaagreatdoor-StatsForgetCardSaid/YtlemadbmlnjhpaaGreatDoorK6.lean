/- The contracts of stats.Event.Check and of the model's check. -/
import Derived.Test.YtlemadbmlnjhpaaGreatDoorK5
namespace Go.Proofs.YtlemadbmlnjhpaaGreatDoor
open Go Go.RowKit Go.Proofs
set_option linter.unusedSimpArgs false
set_option linter.unusedVariables false

def stFrom (seen : List ByteArray) : List ByteArray → Int
  | [] => 0
  | z :: r => if siteErr z ≠ 0 then siteErr z else if Lib.containsS seen z then 7 else stFrom (seen ++ [z]) r
theorem stFrom_at (zs : List ByteArray) {k : Nat} (h : k < zs.length) : stFrom (zs.take k) (zs.drop k) = if siteErr (zs.getD k ByteArray.empty) ≠ 0 then siteErr (zs.getD k ByteArray.empty) else if Lib.containsS (zs.take k) (zs.getD k ByteArray.empty) then 7 else stFrom (zs.take (k + 1)) (zs.drop (k + 1)) := by
  rw [List.drop_eq_getElem_cons h, stFrom, List.getD_eq_getElem?_getD, List.getElem?_eq_getElem h, Option.getD_some, List.take_succ_eq_append_getElem h]
def StAt (zs : List ByteArray) (k : Nat) : Prop := k ≤ zs.length ∧ stFrom [] zs = stFrom (zs.take k) (zs.drop k)
theorem StAt.zero (zs : List ByteArray) : StAt zs 0 := ⟨Nat.zero_le _, by simp⟩
theorem StAt.err {zs : List ByteArray} {k : Nat} (h : StAt zs k) (hk : k < zs.length) (he : siteErr (zs.getD k ByteArray.empty) ≠ 0) : stFrom [] zs = siteErr (zs.getD k ByteArray.empty) := by
  rw [h.2, stFrom_at zs hk, if_pos he]
theorem StAt.dup {zs : List ByteArray} {k : Nat} (h : StAt zs k) (hk : k < zs.length) (he : siteErr (zs.getD k ByteArray.empty) = 0) (hd : Lib.containsS (zs.take k) (zs.getD k ByteArray.empty) = true) : stFrom [] zs = 7 := by
  rw [h.2, stFrom_at zs hk, if_neg (fun hn => hn he), if_pos hd]
theorem StAt.next {zs : List ByteArray} {k : Nat} (h : StAt zs k) (hk : k < zs.length) (he : siteErr (zs.getD k ByteArray.empty) = 0) (hd : Lib.containsS (zs.take k) (zs.getD k ByteArray.empty) = false) : StAt zs (k + 1) :=
  ⟨hk, by rw [h.2, stFrom_at zs hk, if_neg (fun hn => hn he), if_neg (by rw [hd]; decide)]⟩
theorem StAt.done {zs : List ByteArray} {k : Nat} (h : StAt zs k) (hk : ¬ k < zs.length) : stFrom [] zs = 0 := by
  rw [h.2, List.drop_of_length_le (by omega)]; rfl

/-- the error of an event -/
def evErr (m : Int) (gs ss : List ByteArray) (b : Int) : Int :=
  if m < 0 ∨ 105190559 < m then 2 else if fmtErr gs ≠ 0 then fmtErr gs else if 50 < ss.length then 9 else if stFrom [] ss ≠ 0 then stFrom [] ss else if b < 0 ∨ 65536 < b then 2 else 0
theorem evErr_min {m : Int} {gs ss : List ByteArray} {b : Int} (h : m < 0 ∨ 105190559 < m) : evErr m gs ss b = 2 := by rw [evErr, if_pos h]
theorem evErr_grp {m : Int} {gs ss : List ByteArray} {b : Int} (h : 0 ≤ m ∧ m ≤ 105190559) (hg : fmtErr gs ≠ 0) : evErr m gs ss b = fmtErr gs := by rw [evErr, if_neg (by omega), if_pos hg]
theorem evErr_many {m : Int} {gs ss : List ByteArray} {b : Int} (h : 0 ≤ m ∧ m ≤ 105190559) (hg : fmtErr gs = 0) (hs : 50 < ss.length) : evErr m gs ss b = 9 := by
  rw [evErr, if_neg (by omega), if_neg (fun hn => hn hg), if_pos hs]
theorem evErr_site {m : Int} {gs ss : List ByteArray} {b : Int} (h : 0 ≤ m ∧ m ≤ 105190559) (hg : fmtErr gs = 0) (hs : ss.length ≤ 50) {r : Int} (he : stFrom [] ss = r) (hr : r ≠ 0) : evErr m gs ss b = r := by
  rw [evErr, if_neg (by omega), if_neg (fun hn => hn hg), if_neg (by omega), if_pos (by rw [he]; exact hr), he]
theorem evErr_byte {m : Int} {gs ss : List ByteArray} {b : Int} (h : 0 ≤ m ∧ m ≤ 105190559) (hg : fmtErr gs = 0) (hs : ss.length ≤ 50) (he : stFrom [] ss = 0) (hb : b < 0 ∨ 65536 < b) : evErr m gs ss b = 2 := by
  rw [evErr, if_neg (by omega), if_neg (fun hn => hn hg), if_neg (by omega), if_neg (fun hn => hn he), if_pos hb]
theorem evErr_ok {m : Int} {gs ss : List ByteArray} {b : Int} (h : 0 ≤ m ∧ m ≤ 105190559) (hg : fmtErr gs = 0) (hs : ss.length ≤ 50) (he : stFrom [] ss = 0) (hb : 0 ≤ b ∧ b ≤ 65536) : evErr m gs ss b = 0 := by
  rw [evErr, if_neg (by omega), if_neg (fun hn => hn hg), if_neg (by omega), if_neg (fun hn => hn he), if_neg (by omega)]

/-- the cells of an event -/
def evCells (m : Int) (au : List UInt8) (g s : Value) (b : Int) : List Value := [.int .i64 m] ++ au.map (fun x => .int .u8 (x.toNat : Int)) ++ [g, s, .int .i64 b]
theorem list16 {α : Type} : ∀ {l : List α}, l.length = 16 → ∃ a0 a1 a2 a3 a4 a5 a6 a7 a8 a9 a10 a11 a12 a13 a14 a15, l = [a0, a1, a2, a3, a4, a5, a6, a7, a8, a9, a10, a11, a12, a13, a14, a15]
  | [a0, a1, a2, a3, a4, a5, a6, a7, a8, a9, a10, a11, a12, a13, a14, a15], _ => ⟨a0, a1, a2, a3, a4, a5, a6, a7, a8, a9, a10, a11, a12, a13, a14, a15, rfl⟩

set_option maxHeartbeats 1600000 in
theorem evcheck_lit (m : Int) (v1 v2 v3 v4 v5 v6 v7 v8 v9 v10 v11 v12 v13 v14 v15 v16 g sv : Value) (b : Int) (gs ss : List ByteArray) (w : World) (hg : SliceStr w g gs) (hs : SliceStr w sv ss) :
    Calls Tryz.prog 31 #[.agg #[.int .i64 m, v1, v2, v3, v4, v5, v6, v7, v8, v9, v10, v11, v12, v13, v14, v15, v16, g, sv, .int .i64 b]] w fun e w' => e = .returned (.int .i64 (evErr m gs ss b)) ∧ Below w.heap.size w w' := by
  by_cases hm : m < 0 ∨ 105190559 < m
  · have he := Lib.hid (evErr_min (gs := gs) (ss := ss) (b := b) hm)
    by_cases hm0 : m < 0
    · clear hm
      go_enter Tryz.func31, Tryz.ntmps31
      go_wp2_with fail
      go_ret
      exact ⟨ret_int he.out.symm, (Below.refl _ _).alloc (Nat.le_refl _) _⟩
    · have hm1 : 105190559 < m := by omega
      clear hm
      go_enter Tryz.func31, Tryz.ntmps31
      go_wp2_with fail
      go_ret
      exact ⟨ret_int he.out.symm, (Below.refl _ _).alloc (Nat.le_refl _) _⟩
  · have hm0 : 0 ≤ m := by omega
    have hm1 : m ≤ 105190559 := by omega
    clear hm
    obtain ⟨ge, hge⟩ : ∃ ge, ge = fmtErr gs := ⟨_, rfl⟩
    have hfl : ∀ W, Below w.heap.size w W → Calls Tryz.prog 58 #[g] W (SomeStr ge W) := fun W hW => by rw [hge]; exact formatlist_any _ _ _ (hg.below hW)
    have hge' := Lib.hid hge
    have hfl' := Lib.hid hfl
    clear hge hfl hg
    have hb0 := Lib.hid ((Below.refl w.heap.size w).alloc (Nat.le_refl _) (.cells #[.int .i64 m, v1, v2, v3, v4, v5, v6, v7, v8, v9, v10, v11, v12, v13, v14, v15, v16, g, sv, .int .i64 b] 27))
    by_cases h0 : ge = 0
    · subst h0
      have hcells : ∀ W, Below (w.heap.size + 1) (w.alloc (.cells #[.int .i64 m, v1, v2, v3, v4, v5, v6, v7, v8, v9, v10, v11, v12, v13, v14, v15, v16, g, sv, .int .i64 b] 27)) W → W.cell? ⟨w.heap.size, 18, none⟩ = some sv ∧ W.cell? ⟨w.heap.size, 19, none⟩ = some (.int .i64 b) := fun W hW => by
        rw [hW.cell (p := ⟨w.heap.size, 18, none⟩) (by simp), hW.cell (p := ⟨w.heap.size, 19, none⟩) (by simp)]
        rw [cell_of_row _ w.heap.size 18 _ _ _ (heap_alloc_new w _), cell_of_row _ w.heap.size 19 _ _ _ (heap_alloc_new w _)]
        exact ⟨rfl, rfl⟩
      have hcells' := Lib.hid hcells
      clear hcells
      rcases hs with ⟨A, c, rfl, rfl⟩ | ⟨bb, o, c, rfl, g1, g2, g3, g4, g5⟩
      · go_enter Tryz.func31, Tryz.ntmps31
        go_wp2_with (go_at_call 58; refine (hfl'.out _ hb0.out).mono ?_; rintro e w1 ⟨⟨t, rfl⟩, hb1⟩; have hb1' := Lib.hid hb1; clear hb1; obtain ⟨hcl1, hcl2⟩ := hcells'.out _ (by simpa using hb1'.out))
        refine wp_loop_once ?_
        go_wp2_with fail
        all_goals
          go_ret
          refine ⟨ret_int ?_, hb0.out.trans (hb1'.out.mono (by simp))⟩
          first
            | exact (evErr_byte ⟨hm0, hm1⟩ hge'.out.symm (Nat.zero_le _) rfl (by omega)).symm
            | exact (evErr_ok ⟨hm0, hm1⟩ hge'.out.symm (Nat.zero_le _) rfl (by omega)).symm
      · by_cases h50 : 50 < ss.length
        · go_enter Tryz.func31, Tryz.ntmps31
          go_wp2_with (go_at_call 58; refine (hfl'.out _ hb0.out).mono ?_; rintro e w1 ⟨⟨t, rfl⟩, hb1⟩; have hb1' := Lib.hid hb1; clear hb1; obtain ⟨hcl1, hcl2⟩ := hcells'.out _ (by simpa using hb1'.out))
          go_ret
          exact ⟨ret_int (evErr_many ⟨hm0, hm1⟩ hge'.out.symm h50).symm, hb0.out.trans (hb1'.out.mono (by simp))⟩
        · have h50' : ss.length ≤ 50 := by omega
          clear h50
          go_enter Tryz.func31, Tryz.ntmps31
          go_wp2_with (go_at_call 58; refine (hfl'.out _ hb0.out).mono ?_; rintro e w1 ⟨⟨t, rfl⟩, hb1⟩; have hb1' := Lib.hid hb1; clear hb1; obtain ⟨hcl1, hcl2⟩ := hcells'.out _ (by simpa using hb1'.out))
          have hbw := Lib.hid (hb0.out.trans (hb1'.out.mono (by simp)))
          have g4' := Lib.hid g4
          have g5' := Lib.hid g5
          clear g4 g5
          go_loop [33] (fun i => ∃ k : Nat, StAt ss k ∧ i = .int .i64 k) (fun i => ss.length - (intOf i).toNat)
          case atStart => exact ⟨0, StAt.zero _, rfl⟩
          case round =>
            obtain ⟨k, hst, rfl⟩ := hrel
            have hst' := Lib.hid hst
            clear hst
            by_cases hk : k < ss.length
            · obtain ⟨z, hzk⟩ : ∃ z, z = ss.getD k ByteArray.empty := ⟨_, rfl⟩
              have hcell : w1.cell? ⟨bb, o + k, none⟩ = some (.string z) := by rw [hzk]; exact (hbw.out.cell (p := ⟨bb, o + k, none⟩) g3).trans (g4'.out k hk)
              have hsz : z.size ≤ 9223372036854775807 := by rw [hzk]; exact g5'.out _ (getD_mem hk)
              have hzk' := Lib.hid hzk
              clear hzk
              have hkc : k ≤ c := by omega
              obtain ⟨se, hse⟩ : ∃ se, se = siteErr z := ⟨_, rfl⟩
              have hck : ∀ W, Calls Tryz.prog 59 #[.string z] W (SomeOff se W) := fun W => by rw [hse]; exact site_any z W (by omega)
              have hse' := Lib.hid hse
              have hck' := Lib.hid hck
              clear hse hck
              by_cases hs0 : se = 0
              · subst hs0
                obtain ⟨dd, hdd⟩ : ∃ dd, dd = Lib.containsS (ss.take k) z := ⟨_, rfl⟩
                have hct : Calls Tryz.prog 60 #[.slice (some ⟨bb, o, none⟩) k c, .string z] w1 fun e w' => e = .returned (.bool dd) ∧ w' = w1 := by
                  rw [hdd]
                  exact Tryz.slices_Contains_string bb o k c ss z w1 (by omega) (by omega) (fun j hj => (hbw.out.cell (p := ⟨bb, o + j, none⟩) g3).trans (g4'.out j hj))
                have hct' := Lib.hid hct
                have hdd' := Lib.hid hdd
                clear hct hdd
                go_wp2_with (first
                  | (go_at_call 59; refine (hck'.out _).mono ?_; rintro e w' ⟨⟨oo, rfl⟩, rfl⟩)
                  | (go_at_call 60; refine hct'.out.mono ?_; rintro e w' ⟨rfl, rfl⟩))
                · have hd : dd = true := by assumption
                  rw [hdd'.out] at hd
                  rw [hzk'.out] at hd hse'
                  have he := hst'.out.dup hk hse'.out.symm hd
                  go_ret
                  exact ⟨ret_int (evErr_site ⟨hm0, hm1⟩ hge'.out.symm h50' he (by decide)).symm, hbw.out⟩
                · have hd : dd = false := by assumption
                  rw [hdd'.out] at hd
                  rw [hzk'.out] at hd hse'
                  exact ⟨⟨k + 1, hst'.out.next hk hse'.out.symm hd, by go_num⟩, by simp [intOf]; omega⟩
              · have hs0' : (se == 0) = false := beq_eq_false_iff_ne.2 hs0
                go_wp2_with (go_at_call 59; refine (hck'.out _).mono ?_; rintro e w' ⟨⟨oo, rfl⟩, rfl⟩)
                rw [hzk'.out] at hse'
                have he := hst'.out.err hk (by rw [← hse'.out]; exact hs0)
                go_ret
                exact ⟨ret_int (evErr_site ⟨hm0, hm1⟩ hge'.out.symm h50' (he.trans hse'.out.symm) hs0).symm, hbw.out⟩
            · have hd := Lib.hid (hst'.out.done hk)
              go_wp2_with fail
              all_goals
                go_ret
                refine ⟨ret_int ?_, hbw.out⟩
                first
                  | exact (evErr_byte ⟨hm0, hm1⟩ hge'.out.symm h50' hd.out (by omega)).symm
                  | exact (evErr_ok ⟨hm0, hm1⟩ hge'.out.symm h50' hd.out (by omega)).symm
    · have h0' : (ge == 0) = false := beq_eq_false_iff_ne.2 h0
      have h0'' : (ge != 0) = true := by simpa using h0
      have he := Lib.hid (evErr_grp (ss := ss) (b := b) ⟨hm0, hm1⟩ (by rw [← hge'.out]; exact h0))
      go_enter Tryz.func31, Tryz.ntmps31
      go_wp2_with (go_at_call 58; refine (hfl'.out _ hb0.out).mono ?_; rintro e w1 ⟨⟨t, rfl⟩, hb1⟩)
      go_ret
      exact ⟨ret_int (by rw [he.out]; exact hge'.out), hb0.out.trans (hb1.mono (by simp))⟩

set_option maxHeartbeats 1600000 in
theorem mcheck_lit (m : Int) (v1 v2 v3 v4 v5 v6 v7 v8 v9 v10 v11 v12 v13 v14 v15 v16 g sv : Value) (b : Int) (gs ss : List ByteArray) (w : World) (hg : SliceStr w g gs) (hs : SliceStr w sv ss) :
    Calls Tryz.prog 30 #[.agg #[.int .i64 m, v1, v2, v3, v4, v5, v6, v7, v8, v9, v10, v11, v12, v13, v14, v15, v16, g, sv, .int .i64 b]] w fun e w' => e = .returned (.int .i64 (evErr m gs ss b)) ∧ Below w.heap.size w w' := by
  by_cases hm : m < 0 ∨ 105190559 < m
  · have he := Lib.hid (evErr_min (gs := gs) (ss := ss) (b := b) hm)
    by_cases hm0 : m < 0
    · clear hm
      go_enter Tryz.func30, Tryz.ntmps30
      go_wp2_with fail
      go_ret
      exact ⟨ret_int he.out.symm, (Below.refl _ _).alloc (Nat.le_refl _) _⟩
    · have hm1 : 105190559 < m := by omega
      clear hm
      go_enter Tryz.func30, Tryz.ntmps30
      go_wp2_with fail
      go_ret
      exact ⟨ret_int he.out.symm, (Below.refl _ _).alloc (Nat.le_refl _) _⟩
  · have hm0 : 0 ≤ m := by omega
    have hm1 : m ≤ 105190559 := by omega
    clear hm
    have hb0 := Lib.hid ((Below.refl w.heap.size w).alloc (Nat.le_refl _) (.cells #[.int .i64 m, v1, v2, v3, v4, v5, v6, v7, v8, v9, v10, v11, v12, v13, v14, v15, v16, g, sv, .int .i64 b] 27))
    obtain ⟨A, n, cg, rfl, hn⟩ : ∃ A n c, g = .slice A n c ∧ n = gs.length := by
      rcases hg with ⟨A, c, rfl, rfl⟩ | ⟨bb, o, c, rfl, _⟩
      · exact ⟨_, _, _, rfl, rfl⟩
      · exact ⟨_, _, _, rfl, rfl⟩
    by_cases hz : gs.length = 0
    · obtain rfl : gs = [] := List.eq_nil_of_length_eq_zero hz
      have hn0 : n = 0 := hn
      subst hn0
      have hz' : (((0 : Nat) : Int) == 0) = true := rfl
      clear hz hn
      go_enter Tryz.func30, Tryz.ntmps30
      go_wp2_with fail
      go_ret
      exact ⟨ret_int (evErr_grp (gs := []) ⟨hm0, hm1⟩ (by decide)).symm, hb0.out⟩
    obtain ⟨ge, hge⟩ : ∃ ge, ge = fmtErr gs := ⟨_, rfl⟩
    have hgl : glErr gs = ge := by rw [hge, fmtErr, if_neg hz]
    have hfl : ∀ W, Below w.heap.size w W → Calls Tryz.prog 56 #[.slice A n cg] W fun e w' => e = .returned (.int .i64 ge) ∧ Below W.heap.size W w' := fun W hW => by rw [← hgl]; exact checklist_any _ _ _ (hg.below hW)
    have hn0 : ((n : Int) == 0) = false := beq_eq_false_iff_ne.2 (by omega)
    have hge' := Lib.hid hge
    have hfl' := Lib.hid hfl
    clear hge hfl hg hgl hz hn
    by_cases h0 : ge = 0
    · subst h0
      have hcells : ∀ W, Below (w.heap.size + 1) (w.alloc (.cells #[.int .i64 m, v1, v2, v3, v4, v5, v6, v7, v8, v9, v10, v11, v12, v13, v14, v15, v16, .slice A n cg, sv, .int .i64 b] 27)) W → W.cell? ⟨w.heap.size, 18, none⟩ = some sv ∧ W.cell? ⟨w.heap.size, 19, none⟩ = some (.int .i64 b) := fun W hW => by
        rw [hW.cell (p := ⟨w.heap.size, 18, none⟩) (by simp), hW.cell (p := ⟨w.heap.size, 19, none⟩) (by simp)]
        rw [cell_of_row _ w.heap.size 18 _ _ _ (heap_alloc_new w _), cell_of_row _ w.heap.size 19 _ _ _ (heap_alloc_new w _)]
        exact ⟨rfl, rfl⟩
      have hcells' := Lib.hid hcells
      clear hcells
      rcases hs with ⟨A', c, rfl, rfl⟩ | ⟨bb, o, c, rfl, g1, g2, g3, g4, g5⟩
      · go_enter Tryz.func30, Tryz.ntmps30
        go_wp2_with (go_at_call 56; refine (hfl'.out _ hb0.out).mono ?_; rintro e w1 ⟨rfl, hb1⟩; have hb1' := Lib.hid hb1; clear hb1; obtain ⟨hcl1, hcl2⟩ := hcells'.out _ (by simpa using hb1'.out))
        refine wp_loop_once ?_
        go_wp2_with fail
        all_goals
          go_ret
          refine ⟨ret_int ?_, hb0.out.trans (hb1'.out.mono (by simp))⟩
          first
            | exact (evErr_byte ⟨hm0, hm1⟩ hge'.out.symm (Nat.zero_le _) rfl (by omega)).symm
            | exact (evErr_ok ⟨hm0, hm1⟩ hge'.out.symm (Nat.zero_le _) rfl (by omega)).symm
      · by_cases h50 : 50 < ss.length
        · go_enter Tryz.func30, Tryz.ntmps30
          go_wp2_with (go_at_call 56; refine (hfl'.out _ hb0.out).mono ?_; rintro e w1 ⟨rfl, hb1⟩; have hb1' := Lib.hid hb1; clear hb1; obtain ⟨hcl1, hcl2⟩ := hcells'.out _ (by simpa using hb1'.out))
          go_ret
          exact ⟨ret_int (evErr_many ⟨hm0, hm1⟩ hge'.out.symm h50).symm, hb0.out.trans (hb1'.out.mono (by simp))⟩
        · have h50' : ss.length ≤ 50 := by omega
          clear h50
          go_enter Tryz.func30, Tryz.ntmps30
          go_wp2_with (go_at_call 56; refine (hfl'.out _ hb0.out).mono ?_; rintro e w1 ⟨rfl, hb1⟩; have hb1' := Lib.hid hb1; clear hb1; obtain ⟨hcl1, hcl2⟩ := hcells'.out _ (by simpa using hb1'.out))
          have hbw := Lib.hid (hb0.out.trans (hb1'.out.mono (by simp)))
          have hcw : Hid (∀ W, Below w1.heap.size w1 W → W.cell? ⟨w.heap.size, 18, none⟩ = some (.slice (some ⟨bb, o, none⟩) ss.length c) ∧ W.cell? ⟨w.heap.size, 19, none⟩ = some (.int .i64 b)) := fun W hW => hcells'.out _ ((hb1'.out.mono (by simp)).trans (hW.mono (by have := hb1'.out.size; simp at this; omega)))
          have g4' := Lib.hid g4
          have g5' := Lib.hid g5
          clear g4 g5 hcl1 hcl2
          go_loopw [4] (fun i wr => ∃ k : Nat, StAt ss k ∧ i = .int .i64 k ∧ Below w1.heap.size w1 wr) (fun i _ => ss.length - (intOf i).toNat)
          case atStart => exact ⟨0, StAt.zero _, rfl, Below.refl _ _⟩
          case round =>
            obtain ⟨k, hst, rfl, hbr⟩ := hrel
            have hst' := Lib.hid hst
            have hbr' := Lib.hid hbr
            clear hst hbr
            obtain ⟨hcl1, hcl2⟩ := hcw.out _ hbr'.out
            have hall := Lib.hid (hbw.out.trans (hbr'.out.mono hbw.out.size))
            by_cases hk : k < ss.length
            · obtain ⟨z, hzk⟩ : ∃ z, z = ss.getD k ByteArray.empty := ⟨_, rfl⟩
              have hcell : wr.cell? ⟨bb, o + k, none⟩ = some (.string z) := by rw [hzk]; exact (hall.out.cell (p := ⟨bb, o + k, none⟩) g3).trans (g4'.out k hk)
              have hsz : z.size ≤ 9223372036854775807 := by rw [hzk]; exact g5'.out _ (getD_mem hk)
              have hzk' := Lib.hid hzk
              clear hzk
              obtain ⟨se, hse⟩ : ∃ se, se = siteErr z := ⟨_, rfl⟩
              have hck : ∀ W, Calls Tryz.prog 57 #[.string z] W (SomeOff se W) := fun W => by rw [hse]; exact refsite_any z W (by omega)
              have hse' := Lib.hid hse
              have hck' := Lib.hid hck
              clear hse hck
              by_cases hs0 : se = 0
              · subst hs0
                go_wp2_with (go_at_call 57; refine (hck'.out _).mono ?_; rintro e w' ⟨⟨oo, rfl⟩, rfl⟩)
                clear hcell hcl1 hcl2
                go_loopw [7] (fun i wq => ∃ m : Nat, Upto k m (fun j => ss.getD j ByteArray.empty ≠ z) ∧ i = .int .i64 m ∧ Below w1.heap.size w1 wq) (fun i _ => k - (intOf i).toNat)
                case atStart => exact ⟨0, Upto.zero _ _, rfl, hbr'.out⟩
                case round =>
                  obtain ⟨q, hum, rfl, hbq⟩ := hrel
                  have hum' := Lib.hid hum
                  have hbq' := Lib.hid hbq
                  clear hum hbq
                  obtain ⟨hcl1, hcl2⟩ := hcw.out _ hbq'.out
                  have hallq := Lib.hid (hbw.out.trans (hbq'.out.mono hbw.out.size))
                  by_cases hq : q < k
                  · obtain ⟨y, hym⟩ : ∃ y, y = ss.getD q ByteArray.empty := ⟨_, rfl⟩
                    have hcm : wr.cell? ⟨bb, o + q, none⟩ = some (.string y) := by rw [hym]; exact (hallq.out.cell (p := ⟨bb, o + q, none⟩) g3).trans (g4'.out q (by omega))
                    have hck2 : wr.cell? ⟨bb, o + k, none⟩ = some (.string z) := by rw [hzk'.out]; exact (hallq.out.cell (p := ⟨bb, o + k, none⟩) g3).trans (g4'.out k hk)
                    have hym' := Lib.hid hym
                    clear hym
                    go_wp2_with fail
                    go_quiet (fail)
                    go_wp2_with fail
                    · have hyz : y = z := bytes_beq_true (by assumption)
                      have he := hst'.out.dup hk (by rw [← hzk'.out]; exact hse'.out.symm) (contains_at hq (by omega) (by rw [← hym'.out, ← hzk'.out]; exact hyz))
                      go_ret
                      exact ⟨ret_int (evErr_site ⟨hm0, hm1⟩ hge'.out.symm h50' he (by decide)).symm, below_drewN' hallq.out _⟩
                    · have hyz : y ≠ z := bytes_beq_false (by assumption)
                      exact ⟨⟨q + 1, hum'.out.next hq (by rw [← hym'.out]; exact hyz), by go_num, below_drewN' hbq'.out _⟩, by simp [intOf]; omega⟩
                  · go_wp2_with fail
                    exact ⟨⟨k + 1, hst'.out.next hk (by rw [← hzk'.out]; exact hse'.out.symm) (by rw [← hzk'.out]; exact contains_upto (fun j hj => hum'.out.2 j (by omega)) (by omega)), by go_num, hbq'.out⟩, by simp [intOf]; omega⟩
              · have hs0' : (se == 0) = false := beq_eq_false_iff_ne.2 hs0
                go_wp2_with (go_at_call 57; refine (hck'.out _).mono ?_; rintro e w' ⟨⟨oo, rfl⟩, rfl⟩)
                rw [hzk'.out] at hse'
                have he := hst'.out.err hk (by rw [← hse'.out]; exact hs0)
                go_ret
                exact ⟨ret_int (evErr_site ⟨hm0, hm1⟩ hge'.out.symm h50' (he.trans hse'.out.symm) hs0).symm, hall.out⟩
            · have hd := Lib.hid (hst'.out.done hk)
              go_wp2_with fail
              all_goals
                go_ret
                refine ⟨ret_int ?_, hall.out⟩
                first
                  | exact (evErr_byte ⟨hm0, hm1⟩ hge'.out.symm h50' hd.out (by omega)).symm
                  | exact (evErr_ok ⟨hm0, hm1⟩ hge'.out.symm h50' hd.out (by omega)).symm
    · have h0' : (ge == 0) = false := beq_eq_false_iff_ne.2 h0
      have h0'' : (ge != 0) = true := by simpa using h0
      have he := Lib.hid (evErr_grp (ss := ss) (b := b) ⟨hm0, hm1⟩ (by rw [← hge'.out]; exact h0))
      go_enter Tryz.func30, Tryz.ntmps30
      go_wp2_with (go_at_call 56; refine (hfl'.out _ hb0.out).mono ?_; rintro e w1 ⟨rfl, hb1⟩)
      go_ret
      exact ⟨ret_int (by rw [he.out]; exact hge'.out), hb0.out.trans (hb1.mono (by simp))⟩
end Go.Proofs.YtlemadbmlnjhpaaGreatDoor
