/- known. -/
import Derived.Test.YtlemadbmlnjhpaaGreatDoorKI
namespace Go.Proofs.YtlemadbmlnjhpaaGreatDoor
open Go Go.RowKit Go.Proofs
open Go.Sort (grow)
set_option linter.unusedSimpArgs false
set_option linter.unusedVariables false

theorem Tryz.sizeAu : (Tryz.prog.info? 24).map (·.size) = some 16 := by kernel_rfl
theorem sliceStr_lit2 (w : World) (a b : ByteArray) (ha : a.size ≤ 9223372036854775807) (hb : b.size ≤ 9223372036854775807) : SliceStr (w.alloc (.cells #[.string a, .string b] 9)) (.slice (some ⟨w.heap.size, 0, none⟩) 2 2) [a, b] := by
  refine Or.inr ⟨w.heap.size, 0, 2, rfl, Nat.le_refl 2, ⟨by decide, by show 2 ≤ 9223372036854775807; decide⟩, by simp, fun k hk => ?_, fun z hz => ?_⟩
  · rw [cell_of_row _ _ _ _ _ _ (heap_alloc_new w _)]
    rcases k with _ | _ | k
    · rfl
    · rfl
    · simp at hk; omega
  · simp only [List.mem_cons, List.mem_nil_iff, or_false] at hz
    rcases hz with rfl | rfl
    · exact ha
    · exact hb
set_option maxRecDepth 100000 in
set_option maxHeartbeats 3200000 in
theorem known_any (w : World) : Calls Tryz.prog 8 #[] w fun e w' => e = .returned (.bool true) ∧ Below w.heap.size w w' := by
  go_enter Tryz.func8, Tryz.ntmps8
  go_wp2_with (go_at_call 25; fail)
  refine (new_any _).mono ?_
  rintro e w0 ⟨rfl, hst0, hbl0⟩
  obtain ⟨W3, hW3⟩ : ∃ W3, W3 = ((w0.alloc (.cells #[.int .u8 0, .int .u8 0, .int .u8 0, .int .u8 0, .int .u8 0, .int .u8 0, .int .u8 0, .int .u8 0, .int .u8 0, .int .u8 0, .int .u8 0, .int .u8 0, .int .u8 0, .int .u8 0, .int .u8 0, .int .u8 1] 24)).alloc (.cells #[.string ⟨#[97]⟩, .string ⟨#[98]⟩] 9)).alloc (.cells #[.string ⟨#[120]⟩, .string ⟨#[121]⟩] 9) := ⟨_, rfl⟩
  have hb3 : Below w0.heap.size w0 W3 := by rw [hW3]; exact (((Below.refl _ w0).alloc (Nat.le_refl _) _).alloc (by simp) _).alloc (by simp <;> omega) _
  have hg : SliceStr W3 (.slice (some ⟨w0.heap.size + 1, 0, none⟩) 2 2) [sA, sB] := by
    rw [hW3]
    have h := sliceStr_lit2 (w0.alloc (.cells #[.int .u8 0, .int .u8 0, .int .u8 0, .int .u8 0, .int .u8 0, .int .u8 0, .int .u8 0, .int .u8 0, .int .u8 0, .int .u8 0, .int .u8 0, .int .u8 0, .int .u8 0, .int .u8 0, .int .u8 0, .int .u8 1] 24)) sA sB (by decide) (by decide)
    have e : (w0.alloc (.cells #[.int .u8 0, .int .u8 0, .int .u8 0, .int .u8 0, .int .u8 0, .int .u8 0, .int .u8 0, .int .u8 0, .int .u8 0, .int .u8 0, .int .u8 0, .int .u8 0, .int .u8 0, .int .u8 0, .int .u8 0, .int .u8 1] 24)).heap.size = w0.heap.size + 1 := by simp
    rw [e] at h
    exact h.below ((Below.refl _ _).alloc (Nat.le_refl _) _)
  have hs : SliceStr W3 (.slice (some ⟨w0.heap.size + 1 + 1, 0, none⟩) 2 2) [sX, sY] := by
    rw [hW3]
    have h := sliceStr_lit2 ((w0.alloc (.cells #[.int .u8 0, .int .u8 0, .int .u8 0, .int .u8 0, .int .u8 0, .int .u8 0, .int .u8 0, .int .u8 0, .int .u8 0, .int .u8 0, .int .u8 0, .int .u8 0, .int .u8 0, .int .u8 0, .int .u8 0, .int .u8 1] 24)).alloc (.cells #[.string ⟨#[97]⟩, .string ⟨#[98]⟩] 9)) sX sY (by decide) (by decide)
    have e : ((w0.alloc (.cells #[.int .u8 0, .int .u8 0, .int .u8 0, .int .u8 0, .int .u8 0, .int .u8 0, .int .u8 0, .int .u8 0, .int .u8 0, .int .u8 0, .int .u8 0, .int .u8 0, .int .u8 0, .int .u8 0, .int .u8 0, .int .u8 1] 24)).alloc (.cells #[.string ⟨#[97]⟩, .string ⟨#[98]⟩] 9)).heap.size = w0.heap.size + 1 + 1 := by simp
    rw [e] at h
    exact h
  have hau3 : W3.heap[w0.heap.size]? = some (.cells #[.int .u8 0, .int .u8 0, .int .u8 0, .int .u8 0, .int .u8 0, .int .u8 0, .int .u8 0, .int .u8 0, .int .u8 0, .int .u8 0, .int .u8 0, .int .u8 0, .int .u8 0, .int .u8 0, .int .u8 0, .int .u8 1] 24 (0, 0)) := by
    rw [hW3, heap_alloc_old _ _ (by simp <;> omega), heap_alloc_old _ _ (by simp)]; exact heap_alloc_new _ _
  have hst3 := hst0.below hb3
  have hac := add_lit (w.heap.size + 1) w.heap.size [] noSizes 0 0 (.int .u8 0) (.int .u8 0) (.int .u8 0) (.int .u8 0) (.int .u8 0) (.int .u8 0) (.int .u8 0) (.int .u8 0) (.int .u8 0) (.int .u8 0) (.int .u8 0) (.int .u8 0) (.int .u8 0) (.int .u8 0) (.int .u8 0) (.int .u8 1) (.slice (some ⟨w0.heap.size + 1, 0, none⟩) 2 2) (.slice (some ⟨w0.heap.size + 1 + 1, 0, none⟩) 2 2) auOne rfl 300 [sA, sB] [sX, sY] W3 hg hs hst3 bnd_nil (by omega) sz_none
  have hbw : Below w.heap.size w W3 := hbl0.trans (hb3.mono hbl0.size)
  have hlt0 : w.heap.size + 1 < w0.heap.size := hst0.lt.1
  rw [hW3] at hac
  have hac' := Lib.hid hac
  have hau3' := Lib.hid hau3
  have hbw' := Lib.hid hbw
  have hW3' := Lib.hid hW3
  clear hac hau3 hbw hW3 hst3 hg hs hb3 hst0 hbl0
  go_wp2_with (refine wpList_load_row rfl 24 _ rfl w0.heap.size rfl _ _ _ _ (heap_alloc_new _ _) Tryz.underlying24 rfl rfl ?_)
  go_at_call 26
  refine hac'.out.mono ?_
  rintro e w5 hE
  obtain ⟨rfl, hst5, hkp5⟩ := hE
  rw [← hW3'.out] at hkp5
  rw [known_err]
  have hau5 : w5.heap[w0.heap.size]? = some (.cells #[.int .u8 0, .int .u8 0, .int .u8 0, .int .u8 0, .int .u8 0, .int .u8 0, .int .u8 0, .int .u8 0, .int .u8 0, .int .u8 0, .int .u8 0, .int .u8 0, .int .u8 0, .int .u8 0, .int .u8 0, .int .u8 1] 24 (0, 0)) := (hkp5.block _ (Array.getElem?_eq_some_iff.1 hau3'.out).1 (by omega) (by omega)).trans hau3'.out
  have hbw5 : Below w.heap.size w w5 := hbw'.out.trans (hkp5.toBelow hbw'.out.size (by omega) (by omega))
  obtain ⟨W6, hW6⟩ : ∃ W6, W6 = w5.alloc (.cells #[.int .i64 1, .int .i64 300] 34) := ⟨_, rfl⟩
  have hb6 : Below w5.heap.size w5 W6 := by rw [hW6]; exact (Below.refl _ _).alloc (Nat.le_refl _) _
  have hau6 : W6.heap[w0.heap.size]? = some (.cells #[.int .u8 0, .int .u8 0, .int .u8 0, .int .u8 0, .int .u8 0, .int .u8 0, .int .u8 0, .int .u8 0, .int .u8 0, .int .u8 0, .int .u8 0, .int .u8 0, .int .u8 0, .int .u8 0, .int .u8 0, .int .u8 1] 24 (0, 0)) := (hb6.block _ (Array.getElem?_eq_some_iff.1 hau5).1).trans hau5
  have hone6 : W6.heap[w5.heap.size]? = some (.cells #[.int .i64 1, .int .i64 300] 34 (0, 0)) := by rw [hW6]; exact heap_alloc_new _ _
  have hst6 := hst5.below hb6
  have hbw6 : Below w.heap.size w W6 := hbw5.trans (hb6.mono hbw5.size)
  have hW6' := Lib.hid hW6
  have hau6' := Lib.hid hau6
  have hone6' := Lib.hid hone6
  have hst6' := Lib.hid hst6
  have hbw6' := Lib.hid hbw6
  clear hau5 hbw5 hW6 hb6 hau6 hone6 hst6 hbw6 hst5 hkp5
  go_wp2_with fail
  rw [← hW6'.out]
  have hbnd : Bnd knownL := (bnd_nil.add 0 auOne [sA, sB] [sX, sY] 300).bnd (by decide)
  have hst : ∀ d os, StatsAt (grow (redrawn W6 d) os) (w.heap.size + 1) w.heap.size knownL (addZ noSizes 0 [sA, sB] [sX, sY] 300) := fun d os => hst6'.out.below (below_regrown W6 d os)
  have cT : ∀ d os, Calls Tryz.prog 11 #[.pointer (some ⟨w.heap.size + 1, 0, none⟩)] (grow (redrawn W6 d) os) fun e w'' => e = .returned (.agg #[.int .i64 1, .int .i64 300]) ∧ ∃ p : Regrown, w'' = grow (redrawn W6 p.d) p.os := fun d os => Calls.regrown_of (by
    have h := total_any _ _ _ _ _ (hst d os) hbnd
    rw [known_total] at h; exact h)
  have cO : ∀ (kind : Int) (name : ByteArray), zeroCnt kind (sumBy (ofPred kind name 0 0) knownL) = (1, 300) → ∀ d os, Calls Tryz.prog 28 #[.pointer (some ⟨w.heap.size + 1, 0, none⟩), .int .i64 kind, .string name, .int .i64 0, .int .i64 0] (grow (redrawn W6 d) os) fun e w'' => e = .returned (.agg #[.int .i64 1, .int .i64 300]) ∧ ∃ p : Regrown, w'' = grow (redrawn W6 p.d) p.os := fun kind name hk d os => Calls.regrown_of (by
    have h := of_any _ _ _ _ kind name 0 0 _ (hst d os) hbnd
    rw [hk] at h; exact h)
  have cO1 := cO 1 ⟨#[98]⟩ (by rw [show (⟨#[98]⟩ : ByteArray) = sB from rfl, known_grp]; rfl)
  have cO2 := cO 2 ⟨#[120]⟩ (by rw [show (⟨#[120]⟩ : ByteArray) = sX from rfl, known_site]; rfl)
  have cO3 := cO 3 (auText auOne) (by rw [known_auth]; rfl)
  have cA : ∀ d os, Calls Tryz.prog 29 #[.agg #[.int .u8 0, .int .u8 0, .int .u8 0, .int .u8 0, .int .u8 0, .int .u8 0, .int .u8 0, .int .u8 0, .int .u8 0, .int .u8 0, .int .u8 0, .int .u8 0, .int .u8 0, .int .u8 0, .int .u8 0, .int .u8 1]] (grow (redrawn W6 d) os) fun e w'' => e = .returned (.string (auText auOne)) ∧ ∃ p : Regrown, w'' = grow (redrawn W6 p.d) p.os := fun d os => Calls.regrown_of (refauthor_lit (.int .u8 0) (.int .u8 0) (.int .u8 0) (.int .u8 0) (.int .u8 0) (.int .u8 0) (.int .u8 0) (.int .u8 0) (.int .u8 0) (.int .u8 0) (.int .u8 0) (.int .u8 0) (.int .u8 0) (.int .u8 0) (.int .u8 0) (.int .u8 1) auOne rfl _)
  have cS : ∀ d os, Calls Tryz.prog 16 #[.pointer (some ⟨w.heap.size + 1, 0, none⟩)] (grow (redrawn W6 d) os) fun e w'' => e = .returned (.agg #[.int .i64 0, .int .i64 0, .int .i64 0, .int .i64 0, .int .i64 0, .int .i64 0, .int .i64 0, .int .i64 0, .int .i64 0, .int .i64 1, .int .i64 0, .int .i64 0, .int .i64 0, .int .i64 0, .int .i64 0, .int .i64 0, .int .i64 0, .int .i64 0]) ∧ ∃ p : Regrown, w'' = grow (redrawn W6 p.d) p.os := fun d os => Calls.regrown_of (by
    have h := sizes_any _ _ _ _ _ (hst d os)
    rw [known_size] at h; exact h)
  have f0 : ∀ d os, (grow (redrawn W6 d) os).cell? ⟨w0.heap.size, 0, none⟩ = some (.int .u8 0) := fun d os => cell_regrown (by rw [cell_of_row _ _ _ _ _ _ hau6'.out]; rfl) d os
  have f1 : ∀ d os, (grow (redrawn W6 d) os).cell? ⟨w0.heap.size, 1, none⟩ = some (.int .u8 0) := fun d os => cell_regrown (by rw [cell_of_row _ _ _ _ _ _ hau6'.out]; rfl) d os
  have f2 : ∀ d os, (grow (redrawn W6 d) os).cell? ⟨w0.heap.size, 2, none⟩ = some (.int .u8 0) := fun d os => cell_regrown (by rw [cell_of_row _ _ _ _ _ _ hau6'.out]; rfl) d os
  have f3 : ∀ d os, (grow (redrawn W6 d) os).cell? ⟨w0.heap.size, 3, none⟩ = some (.int .u8 0) := fun d os => cell_regrown (by rw [cell_of_row _ _ _ _ _ _ hau6'.out]; rfl) d os
  have f4 : ∀ d os, (grow (redrawn W6 d) os).cell? ⟨w0.heap.size, 4, none⟩ = some (.int .u8 0) := fun d os => cell_regrown (by rw [cell_of_row _ _ _ _ _ _ hau6'.out]; rfl) d os
  have f5 : ∀ d os, (grow (redrawn W6 d) os).cell? ⟨w0.heap.size, 5, none⟩ = some (.int .u8 0) := fun d os => cell_regrown (by rw [cell_of_row _ _ _ _ _ _ hau6'.out]; rfl) d os
  have f6 : ∀ d os, (grow (redrawn W6 d) os).cell? ⟨w0.heap.size, 6, none⟩ = some (.int .u8 0) := fun d os => cell_regrown (by rw [cell_of_row _ _ _ _ _ _ hau6'.out]; rfl) d os
  have f7 : ∀ d os, (grow (redrawn W6 d) os).cell? ⟨w0.heap.size, 7, none⟩ = some (.int .u8 0) := fun d os => cell_regrown (by rw [cell_of_row _ _ _ _ _ _ hau6'.out]; rfl) d os
  have f8 : ∀ d os, (grow (redrawn W6 d) os).cell? ⟨w0.heap.size, 8, none⟩ = some (.int .u8 0) := fun d os => cell_regrown (by rw [cell_of_row _ _ _ _ _ _ hau6'.out]; rfl) d os
  have f9 : ∀ d os, (grow (redrawn W6 d) os).cell? ⟨w0.heap.size, 9, none⟩ = some (.int .u8 0) := fun d os => cell_regrown (by rw [cell_of_row _ _ _ _ _ _ hau6'.out]; rfl) d os
  have f10 : ∀ d os, (grow (redrawn W6 d) os).cell? ⟨w0.heap.size, 10, none⟩ = some (.int .u8 0) := fun d os => cell_regrown (by rw [cell_of_row _ _ _ _ _ _ hau6'.out]; rfl) d os
  have f11 : ∀ d os, (grow (redrawn W6 d) os).cell? ⟨w0.heap.size, 11, none⟩ = some (.int .u8 0) := fun d os => cell_regrown (by rw [cell_of_row _ _ _ _ _ _ hau6'.out]; rfl) d os
  have f12 : ∀ d os, (grow (redrawn W6 d) os).cell? ⟨w0.heap.size, 12, none⟩ = some (.int .u8 0) := fun d os => cell_regrown (by rw [cell_of_row _ _ _ _ _ _ hau6'.out]; rfl) d os
  have f13 : ∀ d os, (grow (redrawn W6 d) os).cell? ⟨w0.heap.size, 13, none⟩ = some (.int .u8 0) := fun d os => cell_regrown (by rw [cell_of_row _ _ _ _ _ _ hau6'.out]; rfl) d os
  have f14 : ∀ d os, (grow (redrawn W6 d) os).cell? ⟨w0.heap.size, 14, none⟩ = some (.int .u8 0) := fun d os => cell_regrown (by rw [cell_of_row _ _ _ _ _ _ hau6'.out]; rfl) d os
  have f15 : ∀ d os, (grow (redrawn W6 d) os).cell? ⟨w0.heap.size, 15, none⟩ = some (.int .u8 1) := fun d os => cell_regrown (by rw [cell_of_row _ _ _ _ _ _ hau6'.out]; rfl) d os
  have g0 : ∀ d os, (grow (redrawn W6 d) os).cell? ⟨w5.heap.size, 0, none⟩ = some (.int .i64 1) := fun d os => cell_regrown (by rw [cell_of_row _ _ _ _ _ _ hone6'.out]; rfl) d os
  have g1 : ∀ d os, (grow (redrawn W6 d) os).cell? ⟨w5.heap.size, 1, none⟩ = some (.int .i64 300) := fun d os => cell_regrown (by rw [cell_of_row _ _ _ _ _ _ hone6'.out]; rfl) d os
  have he : ∀ W, (Op.equal 34 (.agg #[.int .i64 1, .int .i64 300]) (.agg #[.int .i64 1, .int .i64 300])).run Tryz.prog W = .ok true W := fun W => by kernel_rfl
  have hi9 : ∀ W, (Instr.index 41 (.agg #[.int .i64 0, .int .i64 0, .int .i64 0, .int .i64 0, .int .i64 0, .int .i64 0, .int .i64 0, .int .i64 0, .int .i64 0, .int .i64 1, .int .i64 0, .int .i64 0, .int .i64 0, .int .i64 0, .int .i64 0, .int .i64 0, .int .i64 0, .int .i64 0]) (.int .i64 9)).run Tryz.prog W = .ok (.int .i64 1) W := fun W => by kernel_rfl
  have cT' := Lib.hid cT
  have cO1' := Lib.hid cO1
  have cO2' := Lib.hid cO2
  have cO3' := Lib.hid cO3
  have cA' := Lib.hid cA
  have cS' := Lib.hid cS
  clear cT cO cO1 cO2 cO3 cA cS hst hbnd
  refine wp_region_quiet_below (by kernel_rfl) (by kernel_rfl) ?_
  repeat (quiet_step (first | with_reducible exact cT'.out _ _ | with_reducible exact cO1'.out _ _ | with_reducible exact cO2'.out _ _ | with_reducible exact cA'.out _ _ | with_reducible exact cO3'.out _ _ | with_reducible exact cS'.out _ _))
  refine wpQuiet_nil ?_
  intro _ hw'
  obtain ⟨⟨dq, osq⟩, hw''⟩ := hw'
  subst hw''
  go_wp2_with fail
  go_ret
  exact ⟨ret_bool (by simp), hbw6'.out.trans ((below_regrown W6 dq osq).mono hbw6'.out.size)⟩
end Go.Proofs.YtlemadbmlnjhpaaGreatDoor
