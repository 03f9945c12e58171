/- The contracts of stats.Event.Check and of the model's check. -/
/- The contracts of the texts of authors (control.AuthorText and the reference's Author). -/
/- The contract of the reference's Author (layer 17). -/
import Derived.Test.YtlemadbmlnjhpaaGreatDoorG2
import Derived.Deep.RegionLaw
import Derived.Lib.ConvBytes
import Derived.Laws.BytesString
import Derived.Deep.MidRow
namespace Go.Proofs.YtlemadbmlnjhpaaGreatDoor
open Go Go.RowKit Go.Proofs
set_option linter.unusedSimpArgs false
set_option linter.unusedVariables false

def stFrom (seen : List ByteArray) : List ByteArray → Int
  | [] => 0
  | z :: r => if siteErr z ≠ 0 then siteErr z else if Lib.containsS seen z then 7 else stFrom (seen ++ [z]) r
theorem stFrom_at (zs : List ByteArray) {k : Nat} (h : k < zs.length) : stFrom (zs.take k) (zs.drop k) = if siteErr (zs.getD k ByteArray.empty) ≠ 0 then siteErr (zs.getD k ByteArray.empty) else if Lib.containsS (zs.take k) (zs.getD k ByteArray.empty) then 7 else stFrom (zs.take (k + 1)) (zs.drop (k + 1)) := by
  rw [List.drop_eq_getElem_cons h, stFrom, List.getD_eq_getElem?_getD, List.getElem?_eq_getElem h, Option.getD_some, List.take_succ_eq_append_getElem h]
def StAt (zs : List ByteArray) (k : Nat) : Prop := k ≤ zs.length ∧ stFrom [] zs = stFrom (zs.take k) (zs.drop k)
theorem StAt.zero (zs : List ByteArray) : StAt zs 0 := ⟨Nat.zero_le _, by simp⟩
theorem StAt.err {zs : List ByteArray} {k : Nat} (h : StAt zs k) (hk : k < zs.length) (he : siteErr (zs.getD k ByteArray.empty) ≠ 0) : stFrom [] zs = siteErr (zs.getD k ByteArray.empty) := by
  rw [h.2, stFrom_at zs hk, if_pos he]
theorem StAt.dup {zs : List ByteArray} {k : Nat} (h : StAt zs k) (hk : k < zs.length) (he : siteErr (zs.getD k ByteArray.empty) = 0) (hd : Lib.containsS (zs.take k) (zs.getD k ByteArray.empty) = true) : stFrom [] zs = 7 := by
  rw [h.2, stFrom_at zs hk, if_neg (fun hn => hn he), if_pos hd]
theorem StAt.next {zs : List ByteArray} {k : Nat} (h : StAt zs k) (hk : k < zs.length) (he : siteErr (zs.getD k ByteArray.empty) = 0) (hd : Lib.containsS (zs.take k) (zs.getD k ByteArray.empty) = false) : StAt zs (k + 1) :=
  ⟨hk, by rw [h.2, stFrom_at zs hk, if_neg (fun hn => hn he), if_neg (by rw [hd]; decide)]⟩
theorem StAt.done {zs : List ByteArray} {k : Nat} (h : StAt zs k) (hk : ¬ k < zs.length) : stFrom [] zs = 0 := by
  rw [h.2, List.drop_of_length_le (by omega)]; rfl

/-- the error of an event -/
def evErr (m : Int) (gs ss : List ByteArray) (b : Int) : Int :=
  if m < 0 ∨ 105190559 < m then 2 else if fmtErr gs ≠ 0 then fmtErr gs else if 50 < ss.length then 9 else if stFrom [] ss ≠ 0 then stFrom [] ss else if b < 0 ∨ 65536 < b then 2 else 0
theorem evErr_min {m : Int} {gs ss : List ByteArray} {b : Int} (h : m < 0 ∨ 105190559 < m) : evErr m gs ss b = 2 := by rw [evErr, if_pos h]
theorem evErr_grp {m : Int} {gs ss : List ByteArray} {b : Int} (h : 0 ≤ m ∧ m ≤ 105190559) (hg : fmtErr gs ≠ 0) : evErr m gs ss b = fmtErr gs := by rw [evErr, if_neg (by omega), if_pos hg]
theorem evErr_many {m : Int} {gs ss : List ByteArray} {b : Int} (h : 0 ≤ m ∧ m ≤ 105190559) (hg : fmtErr gs = 0) (hs : 50 < ss.length) : evErr m gs ss b = 9 := by
  rw [evErr, if_neg (by omega), if_neg (fun hn => hn hg), if_pos hs]
theorem evErr_site {m : Int} {gs ss : List ByteArray} {b : Int} (h : 0 ≤ m ∧ m ≤ 105190559) (hg : fmtErr gs = 0) (hs : ss.length ≤ 50) {r : Int} (he : stFrom [] ss = r) (hr : r ≠ 0) : evErr m gs ss b = r := by
  rw [evErr, if_neg (by omega), if_neg (fun hn => hn hg), if_neg (by omega), if_pos (by rw [he]; exact hr), he]
theorem evErr_byte {m : Int} {gs ss : List ByteArray} {b : Int} (h : 0 ≤ m ∧ m ≤ 105190559) (hg : fmtErr gs = 0) (hs : ss.length ≤ 50) (he : stFrom [] ss = 0) (hb : b < 0 ∨ 65536 < b) : evErr m gs ss b = 2 := by
  rw [evErr, if_neg (by omega), if_neg (fun hn => hn hg), if_neg (by omega), if_neg (fun hn => hn he), if_pos hb]
theorem evErr_ok {m : Int} {gs ss : List ByteArray} {b : Int} (h : 0 ≤ m ∧ m ≤ 105190559) (hg : fmtErr gs = 0) (hs : ss.length ≤ 50) (he : stFrom [] ss = 0) (hb : 0 ≤ b ∧ b ≤ 65536) : evErr m gs ss b = 0 := by
  rw [evErr, if_neg (by omega), if_neg (fun hn => hn hg), if_neg (by omega), if_neg (fun hn => hn he), if_neg (by omega)]

/-- the cells of an event -/
def evCells (m : Int) (au : List UInt8) (g s : Value) (b : Int) : List Value := [.int .i64 m] ++ au.map (fun x => .int .u8 (x.toNat : Int)) ++ [g, s, .int .i64 b]
theorem list16 {α : Type} : ∀ {l : List α}, l.length = 16 → ∃ a0 a1 a2 a3 a4 a5 a6 a7 a8 a9 a10 a11 a12 a13 a14 a15, l = [a0, a1, a2, a3, a4, a5, a6, a7, a8, a9, a10, a11, a12, a13, a14, a15]
  | [a0, a1, a2, a3, a4, a5, a6, a7, a8, a9, a10, a11, a12, a13, a14, a15], _ => ⟨a0, a1, a2, a3, a4, a5, a6, a7, a8, a9, a10, a11, a12, a13, a14, a15, rfl⟩

set_option maxHeartbeats 1600000 in
theorem evcheck_lit (m : Int) (v1 v2 v3 v4 v5 v6 v7 v8 v9 v10 v11 v12 v13 v14 v15 v16 g sv : Value) (b : Int) (gs ss : List ByteArray) (w : World) (hg : SliceStr w g gs) (hs : SliceStr w sv ss) :
    Calls Tryz.prog 31 #[.agg #[.int .i64 m, v1, v2, v3, v4, v5, v6, v7, v8, v9, v10, v11, v12, v13, v14, v15, v16, g, sv, .int .i64 b]] w fun e w' => e = .returned (.int .i64 (evErr m gs ss b)) ∧ Below w.heap.size w w' := by
  by_cases hm : m < 0 ∨ 105190559 < m
  · have he := Lib.hid (evErr_min (gs := gs) (ss := ss) (b := b) hm)
    by_cases hm0 : m < 0
    · clear hm
      go_enter Tryz.func31, Tryz.ntmps31
      go_wp2_with fail
      go_ret
      exact ⟨ret_int he.out.symm, (Below.refl _ _).alloc (Nat.le_refl _) _⟩
    · have hm1 : 105190559 < m := by omega
      clear hm
      go_enter Tryz.func31, Tryz.ntmps31
      go_wp2_with fail
      go_ret
      exact ⟨ret_int he.out.symm, (Below.refl _ _).alloc (Nat.le_refl _) _⟩
  · have hm0 : 0 ≤ m := by omega
    have hm1 : m ≤ 105190559 := by omega
    clear hm
    obtain ⟨ge, hge⟩ : ∃ ge, ge = fmtErr gs := ⟨_, rfl⟩
    have hfl : ∀ W, Below w.heap.size w W → Calls Tryz.prog 58 #[g] W (SomeStr ge W) := fun W hW => by rw [hge]; exact formatlist_any _ _ _ (hg.below hW)
    have hge' := Lib.hid hge
    have hfl' := Lib.hid hfl
    clear hge hfl hg
    have hb0 := Lib.hid ((Below.refl w.heap.size w).alloc (Nat.le_refl _) (.cells #[.int .i64 m, v1, v2, v3, v4, v5, v6, v7, v8, v9, v10, v11, v12, v13, v14, v15, v16, g, sv, .int .i64 b] 27))
    by_cases h0 : ge = 0
    · subst h0
      have hcells : ∀ W, Below (w.heap.size + 1) (w.alloc (.cells #[.int .i64 m, v1, v2, v3, v4, v5, v6, v7, v8, v9, v10, v11, v12, v13, v14, v15, v16, g, sv, .int .i64 b] 27)) W → W.cell? ⟨w.heap.size, 18, none⟩ = some sv ∧ W.cell? ⟨w.heap.size, 19, none⟩ = some (.int .i64 b) := fun W hW => by
        rw [hW.cell (p := ⟨w.heap.size, 18, none⟩) (by simp), hW.cell (p := ⟨w.heap.size, 19, none⟩) (by simp)]
        rw [cell_of_row _ w.heap.size 18 _ _ _ (heap_alloc_new w _), cell_of_row _ w.heap.size 19 _ _ _ (heap_alloc_new w _)]
        exact ⟨rfl, rfl⟩
      have hcells' := Lib.hid hcells
      clear hcells
      rcases hs with ⟨A, c, rfl, rfl⟩ | ⟨bb, o, c, rfl, g1, g2, g3, g4, g5⟩
      · go_enter Tryz.func31, Tryz.ntmps31
        go_wp2_with (go_at_call 58; refine (hfl'.out _ hb0.out).mono ?_; rintro e w1 ⟨⟨t, rfl⟩, hb1⟩; have hb1' := Lib.hid hb1; clear hb1; obtain ⟨hcl1, hcl2⟩ := hcells'.out _ (by simpa using hb1'.out))
        refine wp_loop_once ?_
        go_wp2_with fail
        all_goals
          go_ret
          refine ⟨ret_int ?_, hb0.out.trans (hb1'.out.mono (by simp))⟩
          first
            | exact (evErr_byte ⟨hm0, hm1⟩ hge'.out.symm (Nat.zero_le _) rfl (by omega)).symm
            | exact (evErr_ok ⟨hm0, hm1⟩ hge'.out.symm (Nat.zero_le _) rfl (by omega)).symm
      · by_cases h50 : 50 < ss.length
        · go_enter Tryz.func31, Tryz.ntmps31
          go_wp2_with (go_at_call 58; refine (hfl'.out _ hb0.out).mono ?_; rintro e w1 ⟨⟨t, rfl⟩, hb1⟩; have hb1' := Lib.hid hb1; clear hb1; obtain ⟨hcl1, hcl2⟩ := hcells'.out _ (by simpa using hb1'.out))
          go_ret
          exact ⟨ret_int (evErr_many ⟨hm0, hm1⟩ hge'.out.symm h50).symm, hb0.out.trans (hb1'.out.mono (by simp))⟩
        · have h50' : ss.length ≤ 50 := by omega
          clear h50
          go_enter Tryz.func31, Tryz.ntmps31
          go_wp2_with (go_at_call 58; refine (hfl'.out _ hb0.out).mono ?_; rintro e w1 ⟨⟨t, rfl⟩, hb1⟩; have hb1' := Lib.hid hb1; clear hb1; obtain ⟨hcl1, hcl2⟩ := hcells'.out _ (by simpa using hb1'.out))
          have hbw := Lib.hid (hb0.out.trans (hb1'.out.mono (by simp)))
          have g4' := Lib.hid g4
          have g5' := Lib.hid g5
          clear g4 g5
          go_loop [33] (fun i => ∃ k : Nat, StAt ss k ∧ i = .int .i64 k) (fun i => ss.length - (intOf i).toNat)
          case atStart => exact ⟨0, StAt.zero _, rfl⟩
          case round =>
            obtain ⟨k, hst, rfl⟩ := hrel
            have hst' := Lib.hid hst
            clear hst
            by_cases hk : k < ss.length
            · obtain ⟨z, hzk⟩ : ∃ z, z = ss.getD k ByteArray.empty := ⟨_, rfl⟩
              have hcell : w1.cell? ⟨bb, o + k, none⟩ = some (.string z) := by rw [hzk]; exact (hbw.out.cell (p := ⟨bb, o + k, none⟩) g3).trans (g4'.out k hk)
              have hsz : z.size ≤ 9223372036854775807 := by rw [hzk]; exact g5'.out _ (getD_mem hk)
              have hzk' := Lib.hid hzk
              clear hzk
              have hkc : k ≤ c := by omega
              obtain ⟨se, hse⟩ : ∃ se, se = siteErr z := ⟨_, rfl⟩
              have hck : ∀ W, Calls Tryz.prog 59 #[.string z] W (SomeOff se W) := fun W => by rw [hse]; exact site_any z W (by omega)
              have hse' := Lib.hid hse
              have hck' := Lib.hid hck
              clear hse hck
              by_cases hs0 : se = 0
              · subst hs0
                obtain ⟨dd, hdd⟩ : ∃ dd, dd = Lib.containsS (ss.take k) z := ⟨_, rfl⟩
                have hct : Calls Tryz.prog 60 #[.slice (some ⟨bb, o, none⟩) k c, .string z] w1 fun e w' => e = .returned (.bool dd) ∧ w' = w1 := by
                  rw [hdd]
                  exact Tryz.slices_Contains_string bb o k c ss z w1 (by omega) (by omega) (fun j hj => (hbw.out.cell (p := ⟨bb, o + j, none⟩) g3).trans (g4'.out j hj))
                have hct' := Lib.hid hct
                have hdd' := Lib.hid hdd
                clear hct hdd
                go_wp2_with (first
                  | (go_at_call 59; refine (hck'.out _).mono ?_; rintro e w' ⟨⟨oo, rfl⟩, rfl⟩)
                  | (go_at_call 60; refine hct'.out.mono ?_; rintro e w' ⟨rfl, rfl⟩))
                · have hd : dd = true := by assumption
                  rw [hdd'.out] at hd
                  rw [hzk'.out] at hd hse'
                  have he := hst'.out.dup hk hse'.out.symm hd
                  go_ret
                  exact ⟨ret_int (evErr_site ⟨hm0, hm1⟩ hge'.out.symm h50' he (by decide)).symm, hbw.out⟩
                · have hd : dd = false := by assumption
                  rw [hdd'.out] at hd
                  rw [hzk'.out] at hd hse'
                  exact ⟨⟨k + 1, hst'.out.next hk hse'.out.symm hd, by go_num⟩, by simp [intOf]; omega⟩
              · have hs0' : (se == 0) = false := beq_eq_false_iff_ne.2 hs0
                go_wp2_with (go_at_call 59; refine (hck'.out _).mono ?_; rintro e w' ⟨⟨oo, rfl⟩, rfl⟩)
                rw [hzk'.out] at hse'
                have he := hst'.out.err hk (by rw [← hse'.out]; exact hs0)
                go_ret
                exact ⟨ret_int (evErr_site ⟨hm0, hm1⟩ hge'.out.symm h50' (he.trans hse'.out.symm) hs0).symm, hbw.out⟩
            · have hd := Lib.hid (hst'.out.done hk)
              go_wp2_with fail
              all_goals
                go_ret
                refine ⟨ret_int ?_, hbw.out⟩
                first
                  | exact (evErr_byte ⟨hm0, hm1⟩ hge'.out.symm h50' hd.out (by omega)).symm
                  | exact (evErr_ok ⟨hm0, hm1⟩ hge'.out.symm h50' hd.out (by omega)).symm
    · have h0' : (ge == 0) = false := beq_eq_false_iff_ne.2 h0
      have h0'' : (ge != 0) = true := by simpa using h0
      have he := Lib.hid (evErr_grp (ss := ss) (b := b) ⟨hm0, hm1⟩ (by rw [← hge'.out]; exact h0))
      go_enter Tryz.func31, Tryz.ntmps31
      go_wp2_with (go_at_call 58; refine (hfl'.out _ hb0.out).mono ?_; rintro e w1 ⟨⟨t, rfl⟩, hb1⟩)
      go_ret
      exact ⟨ret_int (by rw [he.out]; exact hge'.out), hb0.out.trans (hb1.mono (by simp))⟩

set_option maxHeartbeats 1600000 in
theorem mcheck_lit (m : Int) (v1 v2 v3 v4 v5 v6 v7 v8 v9 v10 v11 v12 v13 v14 v15 v16 g sv : Value) (b : Int) (gs ss : List ByteArray) (w : World) (hg : SliceStr w g gs) (hs : SliceStr w sv ss) :
    Calls Tryz.prog 30 #[.agg #[.int .i64 m, v1, v2, v3, v4, v5, v6, v7, v8, v9, v10, v11, v12, v13, v14, v15, v16, g, sv, .int .i64 b]] w fun e w' => e = .returned (.int .i64 (evErr m gs ss b)) ∧ Below w.heap.size w w' := by
  by_cases hm : m < 0 ∨ 105190559 < m
  · have he := Lib.hid (evErr_min (gs := gs) (ss := ss) (b := b) hm)
    by_cases hm0 : m < 0
    · clear hm
      go_enter Tryz.func30, Tryz.ntmps30
      go_wp2_with fail
      go_ret
      exact ⟨ret_int he.out.symm, (Below.refl _ _).alloc (Nat.le_refl _) _⟩
    · have hm1 : 105190559 < m := by omega
      clear hm
      go_enter Tryz.func30, Tryz.ntmps30
      go_wp2_with fail
      go_ret
      exact ⟨ret_int he.out.symm, (Below.refl _ _).alloc (Nat.le_refl _) _⟩
  · have hm0 : 0 ≤ m := by omega
    have hm1 : m ≤ 105190559 := by omega
    clear hm
    have hb0 := Lib.hid ((Below.refl w.heap.size w).alloc (Nat.le_refl _) (.cells #[.int .i64 m, v1, v2, v3, v4, v5, v6, v7, v8, v9, v10, v11, v12, v13, v14, v15, v16, g, sv, .int .i64 b] 27))
    obtain ⟨A, n, cg, rfl, hn⟩ : ∃ A n c, g = .slice A n c ∧ n = gs.length := by
      rcases hg with ⟨A, c, rfl, rfl⟩ | ⟨bb, o, c, rfl, _⟩
      · exact ⟨_, _, _, rfl, rfl⟩
      · exact ⟨_, _, _, rfl, rfl⟩
    by_cases hz : gs.length = 0
    · obtain rfl : gs = [] := List.eq_nil_of_length_eq_zero hz
      have hn0 : n = 0 := hn
      subst hn0
      have hz' : (((0 : Nat) : Int) == 0) = true := rfl
      clear hz hn
      go_enter Tryz.func30, Tryz.ntmps30
      go_wp2_with fail
      go_ret
      exact ⟨ret_int (evErr_grp (gs := []) ⟨hm0, hm1⟩ (by decide)).symm, hb0.out⟩
    obtain ⟨ge, hge⟩ : ∃ ge, ge = fmtErr gs := ⟨_, rfl⟩
    have hgl : glErr gs = ge := by rw [hge, fmtErr, if_neg hz]
    have hfl : ∀ W, Below w.heap.size w W → Calls Tryz.prog 56 #[.slice A n cg] W fun e w' => e = .returned (.int .i64 ge) ∧ Below W.heap.size W w' := fun W hW => by rw [← hgl]; exact checklist_any _ _ _ (hg.below hW)
    have hn0 : ((n : Int) == 0) = false := beq_eq_false_iff_ne.2 (by omega)
    have hge' := Lib.hid hge
    have hfl' := Lib.hid hfl
    clear hge hfl hg hgl hz hn
    by_cases h0 : ge = 0
    · subst h0
      have hcells : ∀ W, Below (w.heap.size + 1) (w.alloc (.cells #[.int .i64 m, v1, v2, v3, v4, v5, v6, v7, v8, v9, v10, v11, v12, v13, v14, v15, v16, .slice A n cg, sv, .int .i64 b] 27)) W → W.cell? ⟨w.heap.size, 18, none⟩ = some sv ∧ W.cell? ⟨w.heap.size, 19, none⟩ = some (.int .i64 b) := fun W hW => by
        rw [hW.cell (p := ⟨w.heap.size, 18, none⟩) (by simp), hW.cell (p := ⟨w.heap.size, 19, none⟩) (by simp)]
        rw [cell_of_row _ w.heap.size 18 _ _ _ (heap_alloc_new w _), cell_of_row _ w.heap.size 19 _ _ _ (heap_alloc_new w _)]
        exact ⟨rfl, rfl⟩
      have hcells' := Lib.hid hcells
      clear hcells
      rcases hs with ⟨A', c, rfl, rfl⟩ | ⟨bb, o, c, rfl, g1, g2, g3, g4, g5⟩
      · go_enter Tryz.func30, Tryz.ntmps30
        go_wp2_with (go_at_call 56; refine (hfl'.out _ hb0.out).mono ?_; rintro e w1 ⟨rfl, hb1⟩; have hb1' := Lib.hid hb1; clear hb1; obtain ⟨hcl1, hcl2⟩ := hcells'.out _ (by simpa using hb1'.out))
        refine wp_loop_once ?_
        go_wp2_with fail
        all_goals
          go_ret
          refine ⟨ret_int ?_, hb0.out.trans (hb1'.out.mono (by simp))⟩
          first
            | exact (evErr_byte ⟨hm0, hm1⟩ hge'.out.symm (Nat.zero_le _) rfl (by omega)).symm
            | exact (evErr_ok ⟨hm0, hm1⟩ hge'.out.symm (Nat.zero_le _) rfl (by omega)).symm
      · by_cases h50 : 50 < ss.length
        · go_enter Tryz.func30, Tryz.ntmps30
          go_wp2_with (go_at_call 56; refine (hfl'.out _ hb0.out).mono ?_; rintro e w1 ⟨rfl, hb1⟩; have hb1' := Lib.hid hb1; clear hb1; obtain ⟨hcl1, hcl2⟩ := hcells'.out _ (by simpa using hb1'.out))
          go_ret
          exact ⟨ret_int (evErr_many ⟨hm0, hm1⟩ hge'.out.symm h50).symm, hb0.out.trans (hb1'.out.mono (by simp))⟩
        · have h50' : ss.length ≤ 50 := by omega
          clear h50
          go_enter Tryz.func30, Tryz.ntmps30
          go_wp2_with (go_at_call 56; refine (hfl'.out _ hb0.out).mono ?_; rintro e w1 ⟨rfl, hb1⟩; have hb1' := Lib.hid hb1; clear hb1; obtain ⟨hcl1, hcl2⟩ := hcells'.out _ (by simpa using hb1'.out))
          have hbw := Lib.hid (hb0.out.trans (hb1'.out.mono (by simp)))
          have hcw : Hid (∀ W, Below w1.heap.size w1 W → W.cell? ⟨w.heap.size, 18, none⟩ = some (.slice (some ⟨bb, o, none⟩) ss.length c) ∧ W.cell? ⟨w.heap.size, 19, none⟩ = some (.int .i64 b)) := fun W hW => hcells'.out _ ((hb1'.out.mono (by simp)).trans (hW.mono (by have := hb1'.out.size; simp at this; omega)))
          have g4' := Lib.hid g4
          have g5' := Lib.hid g5
          clear g4 g5 hcl1 hcl2
          go_loopw [4] (fun i wr => ∃ k : Nat, StAt ss k ∧ i = .int .i64 k ∧ Below w1.heap.size w1 wr) (fun i _ => ss.length - (intOf i).toNat)
          case atStart => exact ⟨0, StAt.zero _, rfl, Below.refl _ _⟩
          case round =>
            obtain ⟨k, hst, rfl, hbr⟩ := hrel
            have hst' := Lib.hid hst
            have hbr' := Lib.hid hbr
            clear hst hbr
            obtain ⟨hcl1, hcl2⟩ := hcw.out _ hbr'.out
            have hall := Lib.hid (hbw.out.trans (hbr'.out.mono hbw.out.size))
            by_cases hk : k < ss.length
            · obtain ⟨z, hzk⟩ : ∃ z, z = ss.getD k ByteArray.empty := ⟨_, rfl⟩
              have hcell : wr.cell? ⟨bb, o + k, none⟩ = some (.string z) := by rw [hzk]; exact (hall.out.cell (p := ⟨bb, o + k, none⟩) g3).trans (g4'.out k hk)
              have hsz : z.size ≤ 9223372036854775807 := by rw [hzk]; exact g5'.out _ (getD_mem hk)
              have hzk' := Lib.hid hzk
              clear hzk
              obtain ⟨se, hse⟩ : ∃ se, se = siteErr z := ⟨_, rfl⟩
              have hck : ∀ W, Calls Tryz.prog 57 #[.string z] W (SomeOff se W) := fun W => by rw [hse]; exact refsite_any z W (by omega)
              have hse' := Lib.hid hse
              have hck' := Lib.hid hck
              clear hse hck
              by_cases hs0 : se = 0
              · subst hs0
                go_wp2_with (go_at_call 57; refine (hck'.out _).mono ?_; rintro e w' ⟨⟨oo, rfl⟩, rfl⟩)
                clear hcell hcl1 hcl2
                go_loopw [7] (fun i wq => ∃ m : Nat, Upto k m (fun j => ss.getD j ByteArray.empty ≠ z) ∧ i = .int .i64 m ∧ Below w1.heap.size w1 wq) (fun i _ => k - (intOf i).toNat)
                case atStart => exact ⟨0, Upto.zero _ _, rfl, hbr'.out⟩
                case round =>
                  obtain ⟨q, hum, rfl, hbq⟩ := hrel
                  have hum' := Lib.hid hum
                  have hbq' := Lib.hid hbq
                  clear hum hbq
                  obtain ⟨hcl1, hcl2⟩ := hcw.out _ hbq'.out
                  have hallq := Lib.hid (hbw.out.trans (hbq'.out.mono hbw.out.size))
                  by_cases hq : q < k
                  · obtain ⟨y, hym⟩ : ∃ y, y = ss.getD q ByteArray.empty := ⟨_, rfl⟩
                    have hcm : wr.cell? ⟨bb, o + q, none⟩ = some (.string y) := by rw [hym]; exact (hallq.out.cell (p := ⟨bb, o + q, none⟩) g3).trans (g4'.out q (by omega))
                    have hck2 : wr.cell? ⟨bb, o + k, none⟩ = some (.string z) := by rw [hzk'.out]; exact (hallq.out.cell (p := ⟨bb, o + k, none⟩) g3).trans (g4'.out k hk)
                    have hym' := Lib.hid hym
                    clear hym
                    go_wp2_with fail
                    go_quiet (fail)
                    go_wp2_with fail
                    · have hyz : y = z := bytes_beq_true (by assumption)
                      have he := hst'.out.dup hk (by rw [← hzk'.out]; exact hse'.out.symm) (contains_at hq (by omega) (by rw [← hym'.out, ← hzk'.out]; exact hyz))
                      go_ret
                      exact ⟨ret_int (evErr_site ⟨hm0, hm1⟩ hge'.out.symm h50' he (by decide)).symm, below_drewN' hallq.out _⟩
                    · have hyz : y ≠ z := bytes_beq_false (by assumption)
                      exact ⟨⟨q + 1, hum'.out.next hq (by rw [← hym'.out]; exact hyz), by go_num, below_drewN' hbq'.out _⟩, by simp [intOf]; omega⟩
                  · go_wp2_with fail
                    exact ⟨⟨k + 1, hst'.out.next hk (by rw [← hzk'.out]; exact hse'.out.symm) (by rw [← hzk'.out]; exact contains_upto (fun j hj => hum'.out.2 j (by omega)) (by omega)), by go_num, hbq'.out⟩, by simp [intOf]; omega⟩
              · have hs0' : (se == 0) = false := beq_eq_false_iff_ne.2 hs0
                go_wp2_with (go_at_call 57; refine (hck'.out _).mono ?_; rintro e w' ⟨⟨oo, rfl⟩, rfl⟩)
                rw [hzk'.out] at hse'
                have he := hst'.out.err hk (by rw [← hse'.out]; exact hs0)
                go_ret
                exact ⟨ret_int (evErr_site ⟨hm0, hm1⟩ hge'.out.symm h50' (he.trans hse'.out.symm) hs0).symm, hall.out⟩
            · have hd := Lib.hid (hst'.out.done hk)
              go_wp2_with fail
              all_goals
                go_ret
                refine ⟨ret_int ?_, hall.out⟩
                first
                  | exact (evErr_byte ⟨hm0, hm1⟩ hge'.out.symm h50' hd.out (by omega)).symm
                  | exact (evErr_ok ⟨hm0, hm1⟩ hge'.out.symm h50' hd.out (by omega)).symm
    · have h0' : (ge == 0) = false := beq_eq_false_iff_ne.2 h0
      have h0'' : (ge != 0) = true := by simpa using h0
      have he := Lib.hid (evErr_grp (ss := ss) (b := b) ⟨hm0, hm1⟩ (by rw [← hge'.out]; exact h0))
      go_enter Tryz.func30, Tryz.ntmps30
      go_wp2_with (go_at_call 56; refine (hfl'.out _ hb0.out).mono ?_; rintro e w1 ⟨rfl, hb1⟩)
      go_ret
      exact ⟨ret_int (by rw [he.out]; exact hge'.out), hb0.out.trans (hb1.mono (by simp))⟩
end Go.Proofs.YtlemadbmlnjhpaaGreatDoor
namespace Go.Proofs.YtlemadbmlnjhpaaGreatDoor
open Go Go.RowKit Go.Proofs
set_option linter.unusedSimpArgs false
set_option linter.unusedVariables false

theorem step_append_own {P : Program} {w : World} {ops : Array Oper} {E : Prop} {o : Oper} {a : Act} {K : Act → World → Prop} {Q : Exit → Act → World → Prop} (hgd : o.guard = none) (s x : Operand) (t : TypeId)
    (ho : o.op = .call { callee := .builtin .append, args := #[s, x], argTypes := #[t, t] })
    (base : Nat) (e : TypeId) (i : TypeInfo) (z : Value) (size bytes : Nat) (ht : P.underlying t = some (.slice e)) (hi : P.info? e = some i) (hz : i.zero = some z)
    (hsize : i.size = size) (hby : i.bytes = bytes) (hzs : z.cells.size = size) (hsz : 0 < size)
    (v : Value) (n : Nat) (xs : List Value) (hs : a.eval s = v) (hown : w.ownsRow base e size v n xs)
    (ad : Addr) (m c : Nat) (news : List Value) (hx : a.eval x = .slice (some ad) m c) (hl : news.length = m * size) (hnews : ∀ j u, news[j]? = some u → w.cell? (ad.add j) = some u) (h1 : ∀ u ∈ news, u.oneCell' = true)
    (h63 : n + m ≤ maxLen) (hbytes : (n + m) * bytes ≤ 140737488355328) (hbase : base ≤ w.heap.size)
    (h : ∀ v' w', w'.ownsRow base e size v' (n + m) (xs ++ news) → w.grownBy w' v.ownBlock → (v' = .slice none 0 0 ↔ v = .slice none 0 0 ∧ m = 0) → K (a.put o.dst v') w') :
    if Region.wanted o (yielded ops a.tmps) = true then Oper.wp P o a w K Q else E := by
  have hw : Region.wanted o (yielded ops a.tmps) = true := by simp [Region.wanted, hgd]
  rw [if_pos hw]
  exact wp_append_own w s x t ho base e i z size bytes ht hi hz hsize hby hzs hsz v n xs hs hown ad m c news hx hl hnews h1 h63 hbytes hbase h

def hexd (n : Nat) : UInt8 := UInt8.ofNat (if n < 10 then 48 + n else 87 + n)
def hexL (l : List UInt8) : List UInt8 := l.flatMap fun c => [hexd (c.toNat / 16), hexd (c.toNat % 16)]
/-- the text of an author -/
def auText (au : List UInt8) : ByteArray := mkS (hexL au)
theorem hexL_snoc (l : List UInt8) (c : UInt8) : hexL (l ++ [c]) = hexL l ++ [hexd (c.toNat / 16), hexd (c.toNat % 16)] := by simp [hexL]
theorem hexL_length (l : List UInt8) : (hexL l).length = 2 * l.length := by
  induction l with
  | nil => rfl
  | cons a l ih => simp only [hexL, List.flatMap_cons, List.length_append, List.length_cons, List.length_nil] at *; omega

def byteVals (l : List UInt8) : List Value := l.map fun b => .int .u8 (b.toNat : Int)
theorem hexL_next {au : List UInt8} {k : Nat} {c : UInt8} (h : au[k]? = some c) : byteVals (hexL (au.take (k + 1))) = byteVals (hexL (au.take k)) ++ [.int .u8 ((hexd (c.toNat / 16)).toNat : Int), .int .u8 ((hexd (c.toNat % 16)).toNat : Int)] := by
  have hk := (List.getElem?_eq_some_iff.1 h)
  obtain ⟨hk1, hk2⟩ := hk
  rw [List.take_succ_eq_append_getElem hk1, hexL_snoc, hk2]
  simp [byteVals]
theorem pushes : ∀ (l : List UInt8) (r : ByteArray), ((l.map fun b => (b.toNat : Int)).foldl (fun r n => r.push (UInt8.ofNat n.toNat)) r).data.toList = r.data.toList ++ l
  | [], r => by simp
  | b :: l, r => by
    simp only [List.map_cons, List.foldl_cons]
    rw [pushes l]
    show (r.data.push _).toList ++ l = _
    simp
theorem string_own {w : World} {base : Nat} {v : Value} {n : Nat} {l : List UInt8} (h : w.ownsRow base 5 1 v n (byteVals l)) (h0 : 0 < n) :
    (convert 75 9 v).run Tryz.prog w = .ok (.string (mkS l)) w := by
  obtain ⟨g, cap, rfl, hg1, hg2⟩ := h.form h0
  have hl : l.length = n := by have := h.1; simpa [byteVals] using this
  rw [run_convert_bytes_string w 75 9 5 _ _ _ Tryz.underlying75 Tryz.underlying5 Tryz.underlying9]
  have hc := run_loadCells_list (P := Tryz.prog) (w := w) ⟨g, 0, none⟩ (byteVals l) (h.cells rfl)
  have e : (byteVals l).length = n := by simpa [byteVals] using hl
  rw [e] at hc
  have := run_bytesToString (P := Tryz.prog) w ⟨g, 0, none⟩ n cap (l.map fun b => (b.toNat : Int)) (by rw [hc]; simp [byteVals, Function.comp_def])
  rw [this]
  congr 2
  rw [← mkS_data (List.foldl _ _ _), pushes]
  rfl
theorem Tryz.infoU8 : (Tryz.prog.info? 5).map (fun i => (i.zero, i.size, i.bytes)) = some (some (.int .u8 0), 1, 1) := by kernel_rfl

theorem Tryz.idxAu0 (v0 v1 v2 v3 v4 v5 v6 v7 v8 v9 v10 v11 v12 v13 v14 v15 : Value) (w : World) : (Instr.index 24 (.agg #[v0, v1, v2, v3, v4, v5, v6, v7, v8, v9, v10, v11, v12, v13, v14, v15]) (.int .i64 ((0 : Nat) : Int))).run Tryz.prog w = .ok v0 w := by kernel_rfl
theorem Tryz.idxAu1 (v0 v1 v2 v3 v4 v5 v6 v7 v8 v9 v10 v11 v12 v13 v14 v15 : Value) (w : World) : (Instr.index 24 (.agg #[v0, v1, v2, v3, v4, v5, v6, v7, v8, v9, v10, v11, v12, v13, v14, v15]) (.int .i64 ((1 : Nat) : Int))).run Tryz.prog w = .ok v1 w := by kernel_rfl
theorem Tryz.idxAu2 (v0 v1 v2 v3 v4 v5 v6 v7 v8 v9 v10 v11 v12 v13 v14 v15 : Value) (w : World) : (Instr.index 24 (.agg #[v0, v1, v2, v3, v4, v5, v6, v7, v8, v9, v10, v11, v12, v13, v14, v15]) (.int .i64 ((2 : Nat) : Int))).run Tryz.prog w = .ok v2 w := by kernel_rfl
theorem Tryz.idxAu3 (v0 v1 v2 v3 v4 v5 v6 v7 v8 v9 v10 v11 v12 v13 v14 v15 : Value) (w : World) : (Instr.index 24 (.agg #[v0, v1, v2, v3, v4, v5, v6, v7, v8, v9, v10, v11, v12, v13, v14, v15]) (.int .i64 ((3 : Nat) : Int))).run Tryz.prog w = .ok v3 w := by kernel_rfl
theorem Tryz.idxAu4 (v0 v1 v2 v3 v4 v5 v6 v7 v8 v9 v10 v11 v12 v13 v14 v15 : Value) (w : World) : (Instr.index 24 (.agg #[v0, v1, v2, v3, v4, v5, v6, v7, v8, v9, v10, v11, v12, v13, v14, v15]) (.int .i64 ((4 : Nat) : Int))).run Tryz.prog w = .ok v4 w := by kernel_rfl
theorem Tryz.idxAu5 (v0 v1 v2 v3 v4 v5 v6 v7 v8 v9 v10 v11 v12 v13 v14 v15 : Value) (w : World) : (Instr.index 24 (.agg #[v0, v1, v2, v3, v4, v5, v6, v7, v8, v9, v10, v11, v12, v13, v14, v15]) (.int .i64 ((5 : Nat) : Int))).run Tryz.prog w = .ok v5 w := by kernel_rfl
theorem Tryz.idxAu6 (v0 v1 v2 v3 v4 v5 v6 v7 v8 v9 v10 v11 v12 v13 v14 v15 : Value) (w : World) : (Instr.index 24 (.agg #[v0, v1, v2, v3, v4, v5, v6, v7, v8, v9, v10, v11, v12, v13, v14, v15]) (.int .i64 ((6 : Nat) : Int))).run Tryz.prog w = .ok v6 w := by kernel_rfl
theorem Tryz.idxAu7 (v0 v1 v2 v3 v4 v5 v6 v7 v8 v9 v10 v11 v12 v13 v14 v15 : Value) (w : World) : (Instr.index 24 (.agg #[v0, v1, v2, v3, v4, v5, v6, v7, v8, v9, v10, v11, v12, v13, v14, v15]) (.int .i64 ((7 : Nat) : Int))).run Tryz.prog w = .ok v7 w := by kernel_rfl
theorem Tryz.idxAu8 (v0 v1 v2 v3 v4 v5 v6 v7 v8 v9 v10 v11 v12 v13 v14 v15 : Value) (w : World) : (Instr.index 24 (.agg #[v0, v1, v2, v3, v4, v5, v6, v7, v8, v9, v10, v11, v12, v13, v14, v15]) (.int .i64 ((8 : Nat) : Int))).run Tryz.prog w = .ok v8 w := by kernel_rfl
theorem Tryz.idxAu9 (v0 v1 v2 v3 v4 v5 v6 v7 v8 v9 v10 v11 v12 v13 v14 v15 : Value) (w : World) : (Instr.index 24 (.agg #[v0, v1, v2, v3, v4, v5, v6, v7, v8, v9, v10, v11, v12, v13, v14, v15]) (.int .i64 ((9 : Nat) : Int))).run Tryz.prog w = .ok v9 w := by kernel_rfl
theorem Tryz.idxAu10 (v0 v1 v2 v3 v4 v5 v6 v7 v8 v9 v10 v11 v12 v13 v14 v15 : Value) (w : World) : (Instr.index 24 (.agg #[v0, v1, v2, v3, v4, v5, v6, v7, v8, v9, v10, v11, v12, v13, v14, v15]) (.int .i64 ((10 : Nat) : Int))).run Tryz.prog w = .ok v10 w := by kernel_rfl
theorem Tryz.idxAu11 (v0 v1 v2 v3 v4 v5 v6 v7 v8 v9 v10 v11 v12 v13 v14 v15 : Value) (w : World) : (Instr.index 24 (.agg #[v0, v1, v2, v3, v4, v5, v6, v7, v8, v9, v10, v11, v12, v13, v14, v15]) (.int .i64 ((11 : Nat) : Int))).run Tryz.prog w = .ok v11 w := by kernel_rfl
theorem Tryz.idxAu12 (v0 v1 v2 v3 v4 v5 v6 v7 v8 v9 v10 v11 v12 v13 v14 v15 : Value) (w : World) : (Instr.index 24 (.agg #[v0, v1, v2, v3, v4, v5, v6, v7, v8, v9, v10, v11, v12, v13, v14, v15]) (.int .i64 ((12 : Nat) : Int))).run Tryz.prog w = .ok v12 w := by kernel_rfl
theorem Tryz.idxAu13 (v0 v1 v2 v3 v4 v5 v6 v7 v8 v9 v10 v11 v12 v13 v14 v15 : Value) (w : World) : (Instr.index 24 (.agg #[v0, v1, v2, v3, v4, v5, v6, v7, v8, v9, v10, v11, v12, v13, v14, v15]) (.int .i64 ((13 : Nat) : Int))).run Tryz.prog w = .ok v13 w := by kernel_rfl
theorem Tryz.idxAu14 (v0 v1 v2 v3 v4 v5 v6 v7 v8 v9 v10 v11 v12 v13 v14 v15 : Value) (w : World) : (Instr.index 24 (.agg #[v0, v1, v2, v3, v4, v5, v6, v7, v8, v9, v10, v11, v12, v13, v14, v15]) (.int .i64 ((14 : Nat) : Int))).run Tryz.prog w = .ok v14 w := by kernel_rfl
theorem Tryz.idxAu15 (v0 v1 v2 v3 v4 v5 v6 v7 v8 v9 v10 v11 v12 v13 v14 v15 : Value) (w : World) : (Instr.index 24 (.agg #[v0, v1, v2, v3, v4, v5, v6, v7, v8, v9, v10, v11, v12, v13, v14, v15]) (.int .i64 ((15 : Nat) : Int))).run Tryz.prog w = .ok v15 w := by kernel_rfl
set_option maxRecDepth 100000 in
theorem Tryz.idxAu (v0 v1 v2 v3 v4 v5 v6 v7 v8 v9 v10 v11 v12 v13 v14 v15 : Value) (k : Nat) (v : Value) (h : [v0, v1, v2, v3, v4, v5, v6, v7, v8, v9, v10, v11, v12, v13, v14, v15][k]? = some v) (w : World) : (Instr.index 24 (.agg #[v0, v1, v2, v3, v4, v5, v6, v7, v8, v9, v10, v11, v12, v13, v14, v15]) (.int .i64 (k : Int))).run Tryz.prog w = .ok v w := by
  match k, h with
  | 0, h => rw [← (Option.some.inj h : v0 = v)]; exact Tryz.idxAu0 v0 v1 v2 v3 v4 v5 v6 v7 v8 v9 v10 v11 v12 v13 v14 v15 w
  | 1, h => rw [← (Option.some.inj h : v1 = v)]; exact Tryz.idxAu1 v0 v1 v2 v3 v4 v5 v6 v7 v8 v9 v10 v11 v12 v13 v14 v15 w
  | 2, h => rw [← (Option.some.inj h : v2 = v)]; exact Tryz.idxAu2 v0 v1 v2 v3 v4 v5 v6 v7 v8 v9 v10 v11 v12 v13 v14 v15 w
  | 3, h => rw [← (Option.some.inj h : v3 = v)]; exact Tryz.idxAu3 v0 v1 v2 v3 v4 v5 v6 v7 v8 v9 v10 v11 v12 v13 v14 v15 w
  | 4, h => rw [← (Option.some.inj h : v4 = v)]; exact Tryz.idxAu4 v0 v1 v2 v3 v4 v5 v6 v7 v8 v9 v10 v11 v12 v13 v14 v15 w
  | 5, h => rw [← (Option.some.inj h : v5 = v)]; exact Tryz.idxAu5 v0 v1 v2 v3 v4 v5 v6 v7 v8 v9 v10 v11 v12 v13 v14 v15 w
  | 6, h => rw [← (Option.some.inj h : v6 = v)]; exact Tryz.idxAu6 v0 v1 v2 v3 v4 v5 v6 v7 v8 v9 v10 v11 v12 v13 v14 v15 w
  | 7, h => rw [← (Option.some.inj h : v7 = v)]; exact Tryz.idxAu7 v0 v1 v2 v3 v4 v5 v6 v7 v8 v9 v10 v11 v12 v13 v14 v15 w
  | 8, h => rw [← (Option.some.inj h : v8 = v)]; exact Tryz.idxAu8 v0 v1 v2 v3 v4 v5 v6 v7 v8 v9 v10 v11 v12 v13 v14 v15 w
  | 9, h => rw [← (Option.some.inj h : v9 = v)]; exact Tryz.idxAu9 v0 v1 v2 v3 v4 v5 v6 v7 v8 v9 v10 v11 v12 v13 v14 v15 w
  | 10, h => rw [← (Option.some.inj h : v10 = v)]; exact Tryz.idxAu10 v0 v1 v2 v3 v4 v5 v6 v7 v8 v9 v10 v11 v12 v13 v14 v15 w
  | 11, h => rw [← (Option.some.inj h : v11 = v)]; exact Tryz.idxAu11 v0 v1 v2 v3 v4 v5 v6 v7 v8 v9 v10 v11 v12 v13 v14 v15 w
  | 12, h => rw [← (Option.some.inj h : v12 = v)]; exact Tryz.idxAu12 v0 v1 v2 v3 v4 v5 v6 v7 v8 v9 v10 v11 v12 v13 v14 v15 w
  | 13, h => rw [← (Option.some.inj h : v13 = v)]; exact Tryz.idxAu13 v0 v1 v2 v3 v4 v5 v6 v7 v8 v9 v10 v11 v12 v13 v14 v15 w
  | 14, h => rw [← (Option.some.inj h : v14 = v)]; exact Tryz.idxAu14 v0 v1 v2 v3 v4 v5 v6 v7 v8 v9 v10 v11 v12 v13 v14 v15 w
  | 15, h => rw [← (Option.some.inj h : v15 = v)]; exact Tryz.idxAu15 v0 v1 v2 v3 v4 v5 v6 v7 v8 v9 v10 v11 v12 v13 v14 v15 w
  | k + 16, h => cases h

theorem Tryz.idxHexd (q : Nat) (hq : q < 16) (w : World) : (Instr.index 9 (.string ⟨#[48, 49, 50, 51, 52, 53, 54, 55, 56, 57, 97, 98, 99, 100, 101, 102]⟩) (.int .u8 (q : Int))).run Tryz.prog w = .ok (.int .u8 ((hexd q).toNat : Int)) w :=
  match q, hq with
  | 0, _ => by kernel_rfl
  | 1, _ => by kernel_rfl
  | 2, _ => by kernel_rfl
  | 3, _ => by kernel_rfl
  | 4, _ => by kernel_rfl
  | 5, _ => by kernel_rfl
  | 6, _ => by kernel_rfl
  | 7, _ => by kernel_rfl
  | 8, _ => by kernel_rfl
  | 9, _ => by kernel_rfl
  | 10, _ => by kernel_rfl
  | 11, _ => by kernel_rfl
  | 12, _ => by kernel_rfl
  | 13, _ => by kernel_rfl
  | 14, _ => by kernel_rfl
  | 15, _ => by kernel_rfl
  | q + 16, h => absurd h (by omega)
theorem and15 (c : Nat) (h : c < 256) : bits .and .u8 (c : Int) 15 = ((c % 16 : Nat) : Int) := by
  rw [show (15 : Int) = ((15 : Nat) : Int) from rfl, u8_and_nat c 15 h (by decide)]
  congr 1
  exact Nat.and_two_pow_sub_one_eq_mod c 4

set_option maxHeartbeats 1600000 in
set_option maxRecDepth 100000 in
theorem authortext_lit (v0 v1 v2 v3 v4 v5 v6 v7 v8 v9 v10 v11 v12 v13 v14 v15 : Value) (au : List UInt8) (hau : [v0, v1, v2, v3, v4, v5, v6, v7, v8, v9, v10, v11, v12, v13, v14, v15] = byteVals au) (w : World) :
    Calls Tryz.prog 50 #[.agg #[v0, v1, v2, v3, v4, v5, v6, v7, v8, v9, v10, v11, v12, v13, v14, v15]] w fun e w' => e = .returned (.string (auText au)) ∧ Below w.heap.size w w' := by
  obtain ⟨i0, hi, hz0, hz1, hz2⟩ := info_parts Tryz.infoU8
  have hl : au.length = 16 := by have := congrArg List.length hau; simpa [byteVals] using this.symm
  have hix := Lib.hid (Tryz.idxAu v0 v1 v2 v3 v4 v5 v6 v7 v8 v9 v10 v11 v12 v13 v14 v15)
  have hau' := Lib.hid hau
  have hl' := Lib.hid hl
  clear hau hl
  go_enter Tryz.func50, Tryz.ntmps50
  go_wp2_with fail
  go_loopw [3, 7] (fun v i wr => ∃ k : Nat, k ≤ 16 ∧ i = .int .i64 k ∧ wr.ownsRow (w.heap.size + 1) 5 1 v (2 * k) (byteVals (hexL (au.take k))) ∧ Below (w.heap.size + 1) (w.alloc (.cells #[v0, v1, v2, v3, v4, v5, v6, v7, v8, v9, v10, v11, v12, v13, v14, v15] 24)) wr) (fun _ i _ => 16 - (intOf i).toNat)
  case atStart => exact ⟨0, by omega, rfl, World.ownsRow_nil _ _ _ _, Below.refl _ _⟩
  case round =>
    obtain ⟨k, hk0, rfl, hown, hbel⟩ := hrel
    by_cases hk : k < 16
    · obtain ⟨c, hc⟩ : ∃ c, au[k]? = some c := ⟨au[k]'(by rw [hl'.out]; exact hk), List.getElem?_eq_getElem _⟩
      have hcell := hix.out k (.int .u8 (c.toNat : Int)) (by rw [hau'.out, byteVals, List.getElem?_map, hc]; rfl)
      have hc' := Lib.hid hc
      clear hc
      have hc256 : c.toNat < 256 := c.toNat_lt
      have hx1 : ∀ W, (Instr.index 9 (.string ⟨#[48, 49, 50, 51, 52, 53, 54, 55, 56, 57, 97, 98, 99, 100, 101, 102]⟩) (.int .u8 ((c.toNat : Int) / 16))).run Tryz.prog W = .ok (.int .u8 ((hexd (c.toNat / 16)).toNat : Int)) W := fun W => by
        rw [show ((c.toNat : Int) / 16) = ((c.toNat / 16 : Nat) : Int) from by omega]; exact Tryz.idxHexd _ (by omega) W
      have hx2 : ∀ W, (Instr.index 9 (.string ⟨#[48, 49, 50, 51, 52, 53, 54, 55, 56, 57, 97, 98, 99, 100, 101, 102]⟩) (.int .u8 (bits BinOp.and IntKind.u8 (c.toNat : Int) 15))).run Tryz.prog W = .ok (.int .u8 ((hexd (c.toNat % 16)).toNat : Int)) W := fun W => by
        rw [and15 _ hc256]; exact Tryz.idxHexd _ (by omega) W
      obtain ⟨x1, hxx1⟩ : ∃ x, x = (hexd (c.toNat / 16)) := ⟨_, rfl⟩
      obtain ⟨x2, hxx2⟩ : ∃ x, x = (hexd (c.toNat % 16)) := ⟨_, rfl⟩
      rw [← hxx1] at hx1
      rw [← hxx2] at hx2
      have hx1' := Lib.hid hxx1
      have hx2' := Lib.hid hxx2
      clear hxx1 hxx2
      have q0 : Hid (((wr.alloc (.cells #[.int .u8 (x1.toNat : Int), .int .u8 (x2.toNat : Int)] 5)).drew).ownsRow (w.heap.size + 1) 5 1 u3 (2 * k) (byteVals (hexL (au.take k)))) := hown.alloc _
      have q1 : Hid (∀ j u, [Value.int .u8 (x1.toNat : Int), .int .u8 (x2.toNat : Int)][j]? = some u → ((wr.alloc (.cells #[.int .u8 (x1.toNat : Int), .int .u8 (x2.toNat : Int)] 5)).drew).cell? ((⟨wr.heap.size, 0, none⟩ : Addr).add j) = some u) := fun j u hj => by
        rw [Addr.add_mid]
        show (wr.alloc _).cell? _ = _
        rw [cell_of_row _ wr.heap.size _ _ _ _ (heap_alloc_new wr _)]
        simpa using hj
      have q2 : Hid (∀ u ∈ [Value.int .u8 (x1.toNat : Int), .int .u8 (x2.toNat : Int)], u.oneCell' = true) := fun u hu => by
        simp only [List.mem_cons, List.mem_nil_iff, or_false] at hu
        rcases hu with rfl | rfl <;> rfl
      have q3 : Hid (2 * k + 2 ≤ maxLen) := show 2 * k + 2 ≤ maxLen by unfold maxLen; omega
      have q4 : Hid ((2 * k + 2) * 1 ≤ 140737488355328) := show (2 * k + 2) * 1 ≤ 140737488355328 by omega
      have q5 : Hid (w.heap.size + 1 ≤ ((wr.alloc (.cells #[.int .u8 (x1.toNat : Int), .int .u8 (x2.toNat : Int)] 5)).drew).heap.size) := by
        have := hbel.size
        show w.heap.size + 1 ≤ (wr.alloc _).heap.size
        simp at this ⊢; omega
      have hbel' := Lib.hid hbel
      have hown' := Lib.hid hown
      clear hbel hown
      go_wp2_with fail
      go_region_law (refine step_append_own rfl _ _ 75 rfl (w.heap.size + 1) 5 i0 (.int .u8 0) 1 1 Tryz.underlying75 hi hz0 hz1 hz2 rfl (by decide) _ _ _ rfl q0.out ⟨wr.heap.size, 0, none⟩ 2 2 [.int .u8 (x1.toNat : Int), .int .u8 (x2.toNat : Int)] rfl rfl q1.out q2.out q3.out q4.out q5.out ?_; intro v' w1 ho hg _)
      go_wp2_with fail
      all_goals
        refine ⟨⟨k + 1, by omega, by go_num, ?_, ?_⟩, by simp [intOf]; omega⟩
        · rw [hexL_next hc'.out, ← hx1'.out, ← hx2'.out, show 2 * (k + 1) = 2 * k + 2 by omega]
          exact ho
        · exact Below.grown (w := ((wr.alloc _).drew)) ((hbel'.out.alloc (by have := hbel'.out.size; simpa using this) _).drew) hg q5.out (fun j hj => (hown'.out.lt j hj).1)
    · obtain rfl : k = 16 := by omega
      have e16 : au.take 16 = au := List.take_of_length_le (by rw [hl'.out]; exact Nat.le_refl _)
      rw [e16] at hown
      have hcv := string_own hown (by decide)
      have hlt := hown.lt
      obtain ⟨g, cap, rfl, hg1, hg2⟩ := hown.form (by decide)
      have hbel' := Lib.hid hbel
      clear hbel hown hlt e16
      go_wp2_with fail
      go_ret
      exact ⟨rfl, ((Below.refl _ w).alloc (Nat.le_refl _) _).trans (hbel'.out.mono (by omega))⟩
end Go.Proofs.YtlemadbmlnjhpaaGreatDoor
namespace Go.Proofs.YtlemadbmlnjhpaaGreatDoor
open Go Go.RowKit Go.Proofs
set_option linter.unusedSimpArgs false
set_option linter.unusedVariables false

def hexDigits : ByteArray := ⟨#[48, 49, 50, 51, 52, 53, 54, 55, 56, 57, 97, 98, 99, 100, 101, 102]⟩
theorem mkS_size (l : List UInt8) : (mkS l).size = l.length := by rw [Lib.size_eq, mkS_toList]
theorem hexL_succ {au : List UInt8} {k : Nat} {c : UInt8} (h : au[k]? = some c) : hexL (au.take (k + 1)) = hexL (au.take k) ++ [hexd (c.toNat / 16), hexd (c.toNat % 16)] := by
  obtain ⟨hk1, hk2⟩ := List.getElem?_eq_some_iff.1 h
  rw [List.take_succ_eq_append_getElem hk1, hexL_snoc, hk2]
theorem Tryz.sliceHexd (q : Nat) (hq : q < 16) (W : World) : (Instr.slice 9 (.string ⟨#[48, 49, 50, 51, 52, 53, 54, 55, 56, 57, 97, 98, 99, 100, 101, 102]⟩) (some (.int .u8 (q : Int))) (some (.int .u8 ((q + 1 : Nat) : Int))) none).run Tryz.prog W = .ok (.string (mkS [hexd q])) W :=
  match q, hq with
  | 0, _ => by kernel_rfl
  | 1, _ => by kernel_rfl
  | 2, _ => by kernel_rfl
  | 3, _ => by kernel_rfl
  | 4, _ => by kernel_rfl
  | 5, _ => by kernel_rfl
  | 6, _ => by kernel_rfl
  | 7, _ => by kernel_rfl
  | 8, _ => by kernel_rfl
  | 9, _ => by kernel_rfl
  | 10, _ => by kernel_rfl
  | 11, _ => by kernel_rfl
  | 12, _ => by kernel_rfl
  | 13, _ => by kernel_rfl
  | 14, _ => by kernel_rfl
  | 15, _ => by kernel_rfl
  | q + 16, h => absurd h (by omega)

set_option maxHeartbeats 1600000 in
set_option maxRecDepth 100000 in
theorem refauthor_lit (v0 v1 v2 v3 v4 v5 v6 v7 v8 v9 v10 v11 v12 v13 v14 v15 : Value) (au : List UInt8) (hau : [v0, v1, v2, v3, v4, v5, v6, v7, v8, v9, v10, v11, v12, v13, v14, v15] = byteVals au) (w : World) :
    Calls Tryz.prog 29 #[.agg #[v0, v1, v2, v3, v4, v5, v6, v7, v8, v9, v10, v11, v12, v13, v14, v15]] w fun e w' => e = .returned (.string (auText au)) ∧ Below w.heap.size w w' := by
  have hl : au.length = 16 := by have := congrArg List.length hau; simpa [byteVals] using this.symm
  have hcs : ∀ k c, au[k]? = some c → ∀ W, Below (w.heap.size + 1) (w.alloc (.cells #[v0, v1, v2, v3, v4, v5, v6, v7, v8, v9, v10, v11, v12, v13, v14, v15] 23)) W → W.cell? ⟨w.heap.size, k, none⟩ = some (.int .u8 (c.toNat : Int)) := fun k c hc W hW => by
    rw [hW.cell (p := ⟨w.heap.size, k, none⟩) (by simp), cell_of_row _ w.heap.size k _ _ _ (heap_alloc_new w _)]
    rw [List.getElem?_toArray, hau, byteVals, List.getElem?_map, hc]; rfl
  have hau' := Lib.hid hau
  have hl' := Lib.hid hl
  have hcs' := Lib.hid hcs
  clear hau hl hcs
  go_enter Tryz.func29, Tryz.ntmps29
  go_wp2_with fail
  go_loopw [4, 5] (fun s i wr => ∃ k : Nat, k ≤ 16 ∧ i = .int .i64 k ∧ s = .string (mkS (hexL (au.take k))) ∧ Below (w.heap.size + 1) (w.alloc (.cells #[v0, v1, v2, v3, v4, v5, v6, v7, v8, v9, v10, v11, v12, v13, v14, v15] 23)) wr) (fun _ i _ => 16 - (intOf i).toNat)
  case atStart => exact ⟨0, by omega, rfl, rfl, Below.refl _ _⟩
  case round =>
    obtain ⟨k, hk0, rfl, rfl, hbel⟩ := hrel
    have hbel' := Lib.hid hbel
    clear hbel
    obtain ⟨acc, hacc⟩ : ∃ s, s = mkS (hexL (au.take k)) := ⟨_, rfl⟩
    rw [← hacc]
    have hacc' := Lib.hid hacc
    clear hacc
    by_cases hk : k < 16
    · obtain ⟨c, hc⟩ : ∃ c, au[k]? = some c := ⟨au[k]'(by rw [hl'.out]; exact hk), List.getElem?_eq_getElem _⟩
      have hcell := hcs'.out k c hc wr hbel'.out
      have hc' := Lib.hid hc
      clear hc
      have hc256 : c.toNat < 256 := c.toNat_lt
      have b1 : (0 : Int) ≤ (c.toNat : Int) / 16 := by omega
      have b2 : (c.toNat : Int) / 16 < 16 := by omega
      have b3 : (0 : Int) ≤ (c.toNat : Int) % 16 := by omega
      have b4 : (c.toNat : Int) % 16 < 16 := by omega
      obtain ⟨y1, hy1⟩ : ∃ y, y = mkS [hexd (c.toNat / 16)] := ⟨_, rfl⟩
      obtain ⟨y2, hy2⟩ : ∃ y, y = mkS [hexd (c.toNat % 16)] := ⟨_, rfl⟩
      have s1 : ∀ W, (Instr.slice 9 (.string ⟨#[48, 49, 50, 51, 52, 53, 54, 55, 56, 57, 97, 98, 99, 100, 101, 102]⟩) (some (.int .u8 ((c.toNat : Int) / 16))) (some (.int .u8 ((c.toNat : Int) / 16 + 1))) none).run Tryz.prog W = .ok (.string y1) W := fun W => by
        rw [show ((c.toNat : Int) / 16) = ((c.toNat / 16 : Nat) : Int) from by omega, show (((c.toNat / 16 : Nat) : Int) + 1) = ((c.toNat / 16 + 1 : Nat) : Int) from by omega, hy1]
        exact Tryz.sliceHexd _ (by omega) W
      have s2 : ∀ W, (Instr.slice 9 (.string ⟨#[48, 49, 50, 51, 52, 53, 54, 55, 56, 57, 97, 98, 99, 100, 101, 102]⟩) (some (.int .u8 ((c.toNat : Int) % 16))) (some (.int .u8 ((c.toNat : Int) % 16 + 1))) none).run Tryz.prog W = .ok (.string y2) W := fun W => by
        rw [show ((c.toNat : Int) % 16) = ((c.toNat % 16 : Nat) : Int) from by omega, show (((c.toNat % 16 : Nat) : Int) + 1) = ((c.toNat % 16 + 1 : Nat) : Int) from by omega, hy2]
        exact Tryz.sliceHexd _ (by omega) W
      have z0 : acc.size ≤ 32 := by rw [hacc'.out, mkS_size, hexL_length]; have := List.length_take_le k au; omega
      have z1 : y1.size ≤ 1 := by rw [hy1, mkS_size]; exact Nat.le_refl _
      have z2 : y2.size ≤ 1 := by rw [hy2, mkS_size]; exact Nat.le_refl _
      have hy1' := Lib.hid hy1
      have hy2' := Lib.hid hy2
      clear hy1 hy2
      go_wp2_with fail
      go_quiet (fail)
      go_wp2_with fail
      refine ⟨⟨k + 1, by omega, by go_num, ?_, below_drewN' hbel'.out _⟩, by simp [intOf]; omega⟩
      rw [hacc'.out, hy1'.out, hy2'.out, ← mkS_append, ← mkS_append, hexL_succ hc'.out]
      simp
    · obtain rfl : k = 16 := by omega
      go_wp2_with fail
      go_ret
      have e16 : au.take 16 = au := List.take_of_length_le (by rw [hl'.out]; exact Nat.le_refl _)
      exact ⟨by rw [hacc'.out, e16]; rfl, ((Below.refl _ w).alloc (Nat.le_refl _) _).trans (hbel'.out.mono (by omega))⟩
end Go.Proofs.YtlemadbmlnjhpaaGreatDoor
