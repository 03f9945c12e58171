/- known. -/
/- The plain law: the sums of the articles' keys are the model's counts. -/
import Derived.Test.YtlemadbmlnjhpaaGreatDoorG6
namespace Go.Proofs.YtlemadbmlnjhpaaGreatDoor
open Go Go.RowKit Go.Proofs
open Go.Sort (grow)
set_option linter.unusedSimpArgs false
set_option linter.unusedVariables false

theorem Tryz.sizeAu : (Tryz.prog.info? 24).map (·.size) = some 16 := by kernel_rfl
theorem sliceStr_lit2 (w : World) (a b : ByteArray) (ha : a.size ≤ 9223372036854775807) (hb : b.size ≤ 9223372036854775807) : SliceStr (w.alloc (.cells #[.string a, .string b] 9)) (.slice (some ⟨w.heap.size, 0, none⟩) 2 2) [a, b] := by
  refine Or.inr ⟨w.heap.size, 0, 2, rfl, Nat.le_refl 2, ⟨by decide, by show 2 ≤ 9223372036854775807; decide⟩, by simp, fun k hk => ?_, fun z hz => ?_⟩
  · rw [cell_of_row _ _ _ _ _ _ (heap_alloc_new w _)]
    rcases k with _ | _ | k
    · rfl
    · rfl
    · simp at hk; omega
  · simp only [List.mem_cons, List.mem_nil_iff, or_false] at hz
    rcases hz with rfl | rfl
    · exact ha
    · exact hb
set_option maxRecDepth 100000 in
set_option maxHeartbeats 3200000 in
theorem known_any (w : World) : Calls Tryz.prog 8 #[] w fun e w' => e = .returned (.bool true) ∧ Below w.heap.size w w' := by
  go_enter Tryz.func8, Tryz.ntmps8
  go_wp2_with (go_at_call 25; fail)
  refine (new_any _).mono ?_
  rintro e w0 ⟨rfl, hst0, hbl0⟩
  obtain ⟨W3, hW3⟩ : ∃ W3, W3 = ((w0.alloc (.cells #[.int .u8 0, .int .u8 0, .int .u8 0, .int .u8 0, .int .u8 0, .int .u8 0, .int .u8 0, .int .u8 0, .int .u8 0, .int .u8 0, .int .u8 0, .int .u8 0, .int .u8 0, .int .u8 0, .int .u8 0, .int .u8 1] 24)).alloc (.cells #[.string ⟨#[97]⟩, .string ⟨#[98]⟩] 9)).alloc (.cells #[.string ⟨#[120]⟩, .string ⟨#[121]⟩] 9) := ⟨_, rfl⟩
  have hb3 : Below w0.heap.size w0 W3 := by rw [hW3]; exact (((Below.refl _ w0).alloc (Nat.le_refl _) _).alloc (by simp) _).alloc (by simp <;> omega) _
  have hg : SliceStr W3 (.slice (some ⟨w0.heap.size + 1, 0, none⟩) 2 2) [sA, sB] := by
    rw [hW3]
    have h := sliceStr_lit2 (w0.alloc (.cells #[.int .u8 0, .int .u8 0, .int .u8 0, .int .u8 0, .int .u8 0, .int .u8 0, .int .u8 0, .int .u8 0, .int .u8 0, .int .u8 0, .int .u8 0, .int .u8 0, .int .u8 0, .int .u8 0, .int .u8 0, .int .u8 1] 24)) sA sB (by decide) (by decide)
    have e : (w0.alloc (.cells #[.int .u8 0, .int .u8 0, .int .u8 0, .int .u8 0, .int .u8 0, .int .u8 0, .int .u8 0, .int .u8 0, .int .u8 0, .int .u8 0, .int .u8 0, .int .u8 0, .int .u8 0, .int .u8 0, .int .u8 0, .int .u8 1] 24)).heap.size = w0.heap.size + 1 := by simp
    rw [e] at h
    exact h.below ((Below.refl _ _).alloc (Nat.le_refl _) _)
  have hs : SliceStr W3 (.slice (some ⟨w0.heap.size + 1 + 1, 0, none⟩) 2 2) [sX, sY] := by
    rw [hW3]
    have h := sliceStr_lit2 ((w0.alloc (.cells #[.int .u8 0, .int .u8 0, .int .u8 0, .int .u8 0, .int .u8 0, .int .u8 0, .int .u8 0, .int .u8 0, .int .u8 0, .int .u8 0, .int .u8 0, .int .u8 0, .int .u8 0, .int .u8 0, .int .u8 0, .int .u8 1] 24)).alloc (.cells #[.string ⟨#[97]⟩, .string ⟨#[98]⟩] 9)) sX sY (by decide) (by decide)
    have e : ((w0.alloc (.cells #[.int .u8 0, .int .u8 0, .int .u8 0, .int .u8 0, .int .u8 0, .int .u8 0, .int .u8 0, .int .u8 0, .int .u8 0, .int .u8 0, .int .u8 0, .int .u8 0, .int .u8 0, .int .u8 0, .int .u8 0, .int .u8 1] 24)).alloc (.cells #[.string ⟨#[97]⟩, .string ⟨#[98]⟩] 9)).heap.size = w0.heap.size + 1 + 1 := by simp
    rw [e] at h
    exact h
  have hau3 : W3.heap[w0.heap.size]? = some (.cells #[.int .u8 0, .int .u8 0, .int .u8 0, .int .u8 0, .int .u8 0, .int .u8 0, .int .u8 0, .int .u8 0, .int .u8 0, .int .u8 0, .int .u8 0, .int .u8 0, .int .u8 0, .int .u8 0, .int .u8 0, .int .u8 1] 24 (0, 0)) := by
    rw [hW3, heap_alloc_old _ _ (by simp <;> omega), heap_alloc_old _ _ (by simp)]; exact heap_alloc_new _ _
  have hst3 := hst0.below hb3
  have hac := add_lit (w.heap.size + 1) w.heap.size [] noSizes 0 0 (.int .u8 0) (.int .u8 0) (.int .u8 0) (.int .u8 0) (.int .u8 0) (.int .u8 0) (.int .u8 0) (.int .u8 0) (.int .u8 0) (.int .u8 0) (.int .u8 0) (.int .u8 0) (.int .u8 0) (.int .u8 0) (.int .u8 0) (.int .u8 1) (.slice (some ⟨w0.heap.size + 1, 0, none⟩) 2 2) (.slice (some ⟨w0.heap.size + 1 + 1, 0, none⟩) 2 2) auOne rfl 300 [sA, sB] [sX, sY] W3 hg hs hst3 bnd_nil (by omega) sz_none
  have hbw : Below w.heap.size w W3 := hbl0.trans (hb3.mono hbl0.size)
  have hlt0 : w.heap.size + 1 < w0.heap.size := hst0.lt.1
  rw [hW3] at hac
  have hac' := Lib.hid hac
  have hau3' := Lib.hid hau3
  have hbw' := Lib.hid hbw
  have hW3' := Lib.hid hW3
  clear hac hau3 hbw hW3 hst3 hg hs hb3 hst0 hbl0
  go_wp2_with (refine wpList_load_row rfl 24 _ rfl w0.heap.size rfl _ _ _ _ (heap_alloc_new _ _) Tryz.underlying24 rfl rfl ?_)
  go_at_call 26
  refine hac'.out.mono ?_
  rintro e w5 hE
  obtain ⟨rfl, hst5, hkp5⟩ := hE
  rw [← hW3'.out] at hkp5
  rw [known_err]
  have hau5 : w5.heap[w0.heap.size]? = some (.cells #[.int .u8 0, .int .u8 0, .int .u8 0, .int .u8 0, .int .u8 0, .int .u8 0, .int .u8 0, .int .u8 0, .int .u8 0, .int .u8 0, .int .u8 0, .int .u8 0, .int .u8 0, .int .u8 0, .int .u8 0, .int .u8 1] 24 (0, 0)) := (hkp5.block _ (Array.getElem?_eq_some_iff.1 hau3'.out).1 (by omega) (by omega)).trans hau3'.out
  have hbw5 : Below w.heap.size w w5 := hbw'.out.trans (hkp5.toBelow hbw'.out.size (by omega) (by omega))
  obtain ⟨W6, hW6⟩ : ∃ W6, W6 = w5.alloc (.cells #[.int .i64 1, .int .i64 300] 34) := ⟨_, rfl⟩
  have hb6 : Below w5.heap.size w5 W6 := by rw [hW6]; exact (Below.refl _ _).alloc (Nat.le_refl _) _
  have hau6 : W6.heap[w0.heap.size]? = some (.cells #[.int .u8 0, .int .u8 0, .int .u8 0, .int .u8 0, .int .u8 0, .int .u8 0, .int .u8 0, .int .u8 0, .int .u8 0, .int .u8 0, .int .u8 0, .int .u8 0, .int .u8 0, .int .u8 0, .int .u8 0, .int .u8 1] 24 (0, 0)) := (hb6.block _ (Array.getElem?_eq_some_iff.1 hau5).1).trans hau5
  have hone6 : W6.heap[w5.heap.size]? = some (.cells #[.int .i64 1, .int .i64 300] 34 (0, 0)) := by rw [hW6]; exact heap_alloc_new _ _
  have hst6 := hst5.below hb6
  have hbw6 : Below w.heap.size w W6 := hbw5.trans (hb6.mono hbw5.size)
  have hW6' := Lib.hid hW6
  have hau6' := Lib.hid hau6
  have hone6' := Lib.hid hone6
  have hst6' := Lib.hid hst6
  have hbw6' := Lib.hid hbw6
  clear hau5 hbw5 hW6 hb6 hau6 hone6 hst6 hbw6 hst5 hkp5
  go_wp2_with fail
  rw [← hW6'.out]
  have hbnd : Bnd knownL := (bnd_nil.add 0 auOne [sA, sB] [sX, sY] 300).bnd (by decide)
  have hst : ∀ d os, StatsAt (grow (redrawn W6 d) os) (w.heap.size + 1) w.heap.size knownL (addZ noSizes 0 [sA, sB] [sX, sY] 300) := fun d os => hst6'.out.below (below_regrown W6 d os)
  have cT : ∀ d os, Calls Tryz.prog 11 #[.pointer (some ⟨w.heap.size + 1, 0, none⟩)] (grow (redrawn W6 d) os) fun e w'' => e = .returned (.agg #[.int .i64 1, .int .i64 300]) ∧ ∃ p : Regrown, w'' = grow (redrawn W6 p.d) p.os := fun d os => Calls.regrown_of (by
    have h := total_any _ _ _ _ _ (hst d os) hbnd
    rw [known_total] at h; exact h)
  have cO : ∀ (kind : Int) (name : ByteArray), zeroCnt kind (sumBy (ofPred kind name 0 0) knownL) = (1, 300) → ∀ d os, Calls Tryz.prog 28 #[.pointer (some ⟨w.heap.size + 1, 0, none⟩), .int .i64 kind, .string name, .int .i64 0, .int .i64 0] (grow (redrawn W6 d) os) fun e w'' => e = .returned (.agg #[.int .i64 1, .int .i64 300]) ∧ ∃ p : Regrown, w'' = grow (redrawn W6 p.d) p.os := fun kind name hk d os => Calls.regrown_of (by
    have h := of_any _ _ _ _ kind name 0 0 _ (hst d os) hbnd
    rw [hk] at h; exact h)
  have cO1 := cO 1 ⟨#[98]⟩ (by rw [show (⟨#[98]⟩ : ByteArray) = sB from rfl, known_grp]; rfl)
  have cO2 := cO 2 ⟨#[120]⟩ (by rw [show (⟨#[120]⟩ : ByteArray) = sX from rfl, known_site]; rfl)
  have cO3 := cO 3 (auText auOne) (by rw [known_auth]; rfl)
  have cA : ∀ d os, Calls Tryz.prog 29 #[.agg #[.int .u8 0, .int .u8 0, .int .u8 0, .int .u8 0, .int .u8 0, .int .u8 0, .int .u8 0, .int .u8 0, .int .u8 0, .int .u8 0, .int .u8 0, .int .u8 0, .int .u8 0, .int .u8 0, .int .u8 0, .int .u8 1]] (grow (redrawn W6 d) os) fun e w'' => e = .returned (.string (auText auOne)) ∧ ∃ p : Regrown, w'' = grow (redrawn W6 p.d) p.os := fun d os => Calls.regrown_of (refauthor_lit (.int .u8 0) (.int .u8 0) (.int .u8 0) (.int .u8 0) (.int .u8 0) (.int .u8 0) (.int .u8 0) (.int .u8 0) (.int .u8 0) (.int .u8 0) (.int .u8 0) (.int .u8 0) (.int .u8 0) (.int .u8 0) (.int .u8 0) (.int .u8 1) auOne rfl _)
  have cS : ∀ d os, Calls Tryz.prog 16 #[.pointer (some ⟨w.heap.size + 1, 0, none⟩)] (grow (redrawn W6 d) os) fun e w'' => e = .returned (.agg #[.int .i64 0, .int .i64 0, .int .i64 0, .int .i64 0, .int .i64 0, .int .i64 0, .int .i64 0, .int .i64 0, .int .i64 0, .int .i64 1, .int .i64 0, .int .i64 0, .int .i64 0, .int .i64 0, .int .i64 0, .int .i64 0, .int .i64 0, .int .i64 0]) ∧ ∃ p : Regrown, w'' = grow (redrawn W6 p.d) p.os := fun d os => Calls.regrown_of (by
    have h := sizes_any _ _ _ _ _ (hst d os)
    rw [known_size] at h; exact h)
  have f0 : ∀ d os, (grow (redrawn W6 d) os).cell? ⟨w0.heap.size, 0, none⟩ = some (.int .u8 0) := fun d os => cell_regrown (by rw [cell_of_row _ _ _ _ _ _ hau6'.out]; rfl) d os
  have f1 : ∀ d os, (grow (redrawn W6 d) os).cell? ⟨w0.heap.size, 1, none⟩ = some (.int .u8 0) := fun d os => cell_regrown (by rw [cell_of_row _ _ _ _ _ _ hau6'.out]; rfl) d os
  have f2 : ∀ d os, (grow (redrawn W6 d) os).cell? ⟨w0.heap.size, 2, none⟩ = some (.int .u8 0) := fun d os => cell_regrown (by rw [cell_of_row _ _ _ _ _ _ hau6'.out]; rfl) d os
  have f3 : ∀ d os, (grow (redrawn W6 d) os).cell? ⟨w0.heap.size, 3, none⟩ = some (.int .u8 0) := fun d os => cell_regrown (by rw [cell_of_row _ _ _ _ _ _ hau6'.out]; rfl) d os
  have f4 : ∀ d os, (grow (redrawn W6 d) os).cell? ⟨w0.heap.size, 4, none⟩ = some (.int .u8 0) := fun d os => cell_regrown (by rw [cell_of_row _ _ _ _ _ _ hau6'.out]; rfl) d os
  have f5 : ∀ d os, (grow (redrawn W6 d) os).cell? ⟨w0.heap.size, 5, none⟩ = some (.int .u8 0) := fun d os => cell_regrown (by rw [cell_of_row _ _ _ _ _ _ hau6'.out]; rfl) d os
  have f6 : ∀ d os, (grow (redrawn W6 d) os).cell? ⟨w0.heap.size, 6, none⟩ = some (.int .u8 0) := fun d os => cell_regrown (by rw [cell_of_row _ _ _ _ _ _ hau6'.out]; rfl) d os
  have f7 : ∀ d os, (grow (redrawn W6 d) os).cell? ⟨w0.heap.size, 7, none⟩ = some (.int .u8 0) := fun d os => cell_regrown (by rw [cell_of_row _ _ _ _ _ _ hau6'.out]; rfl) d os
  have f8 : ∀ d os, (grow (redrawn W6 d) os).cell? ⟨w0.heap.size, 8, none⟩ = some (.int .u8 0) := fun d os => cell_regrown (by rw [cell_of_row _ _ _ _ _ _ hau6'.out]; rfl) d os
  have f9 : ∀ d os, (grow (redrawn W6 d) os).cell? ⟨w0.heap.size, 9, none⟩ = some (.int .u8 0) := fun d os => cell_regrown (by rw [cell_of_row _ _ _ _ _ _ hau6'.out]; rfl) d os
  have f10 : ∀ d os, (grow (redrawn W6 d) os).cell? ⟨w0.heap.size, 10, none⟩ = some (.int .u8 0) := fun d os => cell_regrown (by rw [cell_of_row _ _ _ _ _ _ hau6'.out]; rfl) d os
  have f11 : ∀ d os, (grow (redrawn W6 d) os).cell? ⟨w0.heap.size, 11, none⟩ = some (.int .u8 0) := fun d os => cell_regrown (by rw [cell_of_row _ _ _ _ _ _ hau6'.out]; rfl) d os
  have f12 : ∀ d os, (grow (redrawn W6 d) os).cell? ⟨w0.heap.size, 12, none⟩ = some (.int .u8 0) := fun d os => cell_regrown (by rw [cell_of_row _ _ _ _ _ _ hau6'.out]; rfl) d os
  have f13 : ∀ d os, (grow (redrawn W6 d) os).cell? ⟨w0.heap.size, 13, none⟩ = some (.int .u8 0) := fun d os => cell_regrown (by rw [cell_of_row _ _ _ _ _ _ hau6'.out]; rfl) d os
  have f14 : ∀ d os, (grow (redrawn W6 d) os).cell? ⟨w0.heap.size, 14, none⟩ = some (.int .u8 0) := fun d os => cell_regrown (by rw [cell_of_row _ _ _ _ _ _ hau6'.out]; rfl) d os
  have f15 : ∀ d os, (grow (redrawn W6 d) os).cell? ⟨w0.heap.size, 15, none⟩ = some (.int .u8 1) := fun d os => cell_regrown (by rw [cell_of_row _ _ _ _ _ _ hau6'.out]; rfl) d os
  have g0 : ∀ d os, (grow (redrawn W6 d) os).cell? ⟨w5.heap.size, 0, none⟩ = some (.int .i64 1) := fun d os => cell_regrown (by rw [cell_of_row _ _ _ _ _ _ hone6'.out]; rfl) d os
  have g1 : ∀ d os, (grow (redrawn W6 d) os).cell? ⟨w5.heap.size, 1, none⟩ = some (.int .i64 300) := fun d os => cell_regrown (by rw [cell_of_row _ _ _ _ _ _ hone6'.out]; rfl) d os
  have he : ∀ W, (Op.equal 34 (.agg #[.int .i64 1, .int .i64 300]) (.agg #[.int .i64 1, .int .i64 300])).run Tryz.prog W = .ok true W := fun W => by kernel_rfl
  have hi9 : ∀ W, (Instr.index 41 (.agg #[.int .i64 0, .int .i64 0, .int .i64 0, .int .i64 0, .int .i64 0, .int .i64 0, .int .i64 0, .int .i64 0, .int .i64 0, .int .i64 1, .int .i64 0, .int .i64 0, .int .i64 0, .int .i64 0, .int .i64 0, .int .i64 0, .int .i64 0, .int .i64 0]) (.int .i64 9)).run Tryz.prog W = .ok (.int .i64 1) W := fun W => by kernel_rfl
  have cT' := Lib.hid cT
  have cO1' := Lib.hid cO1
  have cO2' := Lib.hid cO2
  have cO3' := Lib.hid cO3
  have cA' := Lib.hid cA
  have cS' := Lib.hid cS
  clear cT cO cO1 cO2 cO3 cA cS hst hbnd
  refine wp_region_quiet_below (by kernel_rfl) (by kernel_rfl) ?_
  repeat (quiet_step (first | with_reducible exact cT'.out _ _ | with_reducible exact cO1'.out _ _ | with_reducible exact cO2'.out _ _ | with_reducible exact cA'.out _ _ | with_reducible exact cO3'.out _ _ | with_reducible exact cS'.out _ _))
  refine wpQuiet_nil ?_
  intro _ hw'
  obtain ⟨⟨dq, osq⟩, hw''⟩ := hw'
  subst hw''
  go_wp2_with fail
  go_ret
  exact ⟨ret_bool (by simp), hbw6'.out.trans ((below_regrown W6 dq osq).mono hbw6'.out.size)⟩
end Go.Proofs.YtlemadbmlnjhpaaGreatDoor
namespace Go.Proofs.YtlemadbmlnjhpaaGreatDoor
open Go Go.RowKit Go.Proofs
set_option linter.unusedSimpArgs false
set_option linter.unusedVariables false

/-- the strings of a list are pairwise different, told as stFrom tells it -/
theorem stFrom_facts : ∀ (seen l : List ByteArray), stFrom seen l = 0 → l.Nodup ∧ (∀ x ∈ l, x ∉ seen) ∧ ∀ x ∈ l, siteErr x = 0
  | seen, [], _ => ⟨List.nodup_nil, fun x hx => by simp at hx, fun x hx => by simp at hx⟩
  | seen, z :: r, h => by
    rw [stFrom] at h
    split at h
    · rename_i h1; exact absurd h h1
    · rename_i h1
      split at h
      · cases h
      · rename_i h2
        obtain ⟨h3, h4, h5⟩ := stFrom_facts (seen ++ [z]) r h
        have hz : z ∉ seen := fun hm => h2 ((Lib.containsS_iff _ _).2 hm)
        refine ⟨List.nodup_cons.2 ⟨fun hm => by have := h4 z hm; simp at this, h3⟩, fun x hx => ?_, fun x hx => ?_⟩
        · rcases List.mem_cons.1 hx with rfl | hx
          · exact hz
          · have := h4 x hx; simp at this; exact this.1
        · rcases List.mem_cons.1 hx with rfl | hx
          · simpa using h1
          · exact h5 x hx
theorem glFrom_facts : ∀ (seen l : List ByteArray), glFrom seen l = 0 → l.Nodup ∧ (∀ x ∈ l, x ∉ seen) ∧ ∀ x ∈ l, gErr x = 0
  | seen, [], _ => ⟨List.nodup_nil, fun x hx => by simp at hx, fun x hx => by simp at hx⟩
  | seen, z :: r, h => by
    rw [glFrom] at h
    split at h
    · rename_i h1; exact absurd h h1
    · rename_i h1
      split at h
      · cases h
      · rename_i h2
        obtain ⟨h3, h4, h5⟩ := glFrom_facts (seen ++ [z]) r h
        have hz : z ∉ seen := fun hm => h2 ((Lib.containsS_iff _ _).2 hm)
        refine ⟨List.nodup_cons.2 ⟨fun hm => by have := h4 z hm; simp at this, h3⟩, fun x hx => ?_, fun x hx => ?_⟩
        · rcases List.mem_cons.1 hx with rfl | hx
          · exact hz
          · have := h4 x hx; simp at this; exact this.1
        · rcases List.mem_cons.1 hx with rfl | hx
          · simpa using h1
          · exact h5 x hx
theorem evErr_facts {m : Int} {gs ss : List ByteArray} {b : Int} (h : evErr m gs ss b = 0) : glFrom [] gs = 0 ∧ stFrom [] ss = 0 := by
  unfold evErr at h
  split at h
  · cases h
  · split at h
    · omega
    · rename_i h2
      split at h
      · cases h
      · split at h
        · omega
        · rename_i h4
          have h3 : fmtErr gs = 0 := by simpa using h2
          unfold fmtErr glErr at h3
          split at h3
          · cases h3
          · split at h3
            · cases h3
            · exact ⟨h3, by simpa using h4⟩

theorem countP_one {l : List ByteArray} (hn : l.Nodup) (name : ByteArray) : l.countP (fun x => x.toList == name.toList) = if hasL l name then 1 else 0 := by
  induction l with
  | nil => simp [hasL]
  | cons z r ih =>
    obtain ⟨h1, h2⟩ := List.nodup_cons.1 hn
    rw [List.countP_cons, ih h2]
    by_cases hz : (z.toList == name.toList) = true
    · have e := bytes_beq_true hz
      have hr : hasL r name = false := by
        rw [hasL, List.any_eq_false]
        intro x hx hxn
        exact h1 (by rw [e, ← bytes_beq_true hxn]; exact hx)
      have hc : hasL (z :: r) name = true := by simp only [hasL, List.any_cons, hz, Bool.true_or]
      rw [hr, hc]; simp [hz]
    · have hc : hasL (z :: r) name = hasL r name := by simp only [hasL, List.any_cons]; rw [Bool.not_eq_true] at hz; rw [hz, Bool.false_or]
      rw [hc]; simp [hz]
theorem countP_day (kind k : Int) (name : ByteArray) (a b d : Int) (l : List ByteArray) :
    (l.map fun x => (d, k, x)).countP (ofPred kind name a b) = if k = kind ∧ a ≤ d ∧ d ≤ b then l.countP (fun x => x.toList == name.toList) else 0 := by
  rw [List.countP_map]
  split
  · rename_i h
    obtain ⟨h1, h2, h3⟩ := h
    congr 1
    funext x
    simp [ofPred, h1, h2, h3]
  · rename_i h
    rw [List.countP_eq_zero]
    intro x _
    simp only [Function.comp, ofPred, Bool.and_eq_true, decide_eq_true_eq, beq_iff_eq]
    intro hh
    exact h ⟨hh.1, hh.2.2⟩
theorem keys_count (kind : Int) (name : ByteArray) (a b : Int) (mi : Int) (au : List UInt8) (gs ss : List ByteArray) (hk : 1 ≤ kind) :
    (keysOf mi au gs ss).countP (ofPred kind name a b) = if a ≤ mi / 1440 ∧ mi / 1440 ≤ b then (if kind = 1 then gs.countP (fun x => x.toList == name.toList) else if kind = 2 then ss.countP (fun x => x.toList == name.toList) else if kind = 3 then [auText au].countP (fun x => x.toList == name.toList) else 0) else 0 := by
  have e : keysOf mi au gs ss = [(mi / 1440, 0, ByteArray.empty)] ++ gs.map (fun g => (mi / 1440, 1, g)) ++ ss.map (fun s => (mi / 1440, 2, s)) ++ [auText au].map (fun s => (mi / 1440, 3, s)) := rfl
  have h0 : [((mi / 1440, 0, ByteArray.empty) : Key)].countP (ofPred kind name a b) = 0 := by
    rw [List.countP_eq_zero]
    intro x hx
    rw [List.mem_singleton.1 hx]
    simp only [ofPred, Bool.and_eq_true, beq_iff_eq]
    intro h; have := h.1; omega
  rw [e, List.countP_append, List.countP_append, List.countP_append, countP_day, countP_day, countP_day, h0]
  by_cases hd : a ≤ mi / 1440 ∧ mi / 1440 ≤ b
  · by_cases h1 : kind = 1
    · subst h1; simp [hd]
    · by_cases h2 : kind = 2
      · subst h2; simp [hd]
      · by_cases h3 : kind = 3
        · subst h3; simp [hd]
        · simp [hd, h1, h2, h3, Ne.symm h1, Ne.symm h2, Ne.symm h3]
  · rw [if_neg (fun h => hd h.2), if_neg (fun h => hd h.2), if_neg (fun h => hd h.2), if_neg hd]
theorem hit_count (e : Ev) (he : e.err = 0) (kind : Int) (name : ByteArray) (a b : Int) (hk : 1 ≤ kind) (hk3 : kind ≤ 3) (hn : ¬ name.toList = []) :
    (keysOf e.mi e.au e.gs e.ss).countP (ofPred kind name a b) = if e.hit kind name a b then 1 else 0 := by
  obtain ⟨hg, hs⟩ := evErr_facts he
  have hng := (glFrom_facts _ _ hg).1
  have hns := (stFrom_facts _ _ hs).1
  rw [keys_count kind name a b _ _ _ _ hk]
  have hn' : (name.toList == []) = false := by simpa using hn
  by_cases hd : a ≤ e.mi / 1440 ∧ e.mi / 1440 ≤ b
  · rw [if_pos hd, Ev.hit, hn', decide_eq_true hd.1, decide_eq_true hd.2, Bool.false_or, Bool.true_and, Bool.true_and, Ev.has, decide_eq_true hk, decide_eq_true hk3, Bool.true_and, Bool.and_true]
    have h : kind = 1 ∨ kind = 2 ∨ kind = 3 := by omega
    rcases h with rfl | rfl | rfl
    · exact countP_one hng name
    · exact countP_one hns name
    · exact countP_one (by simp) name
  · rw [if_neg hd, Ev.hit]
    have : (decide (a ≤ e.mi / 1440) && (decide (e.mi / 1440 ≤ b) && (name.toList == [] || e.has kind name))) = false := by
      rw [← Bool.and_assoc]
      have : (decide (a ≤ e.mi / 1440) && decide (e.mi / 1440 ≤ b)) = false := by
        rw [← Bool.not_eq_true, Bool.and_eq_true, decide_eq_true_eq, decide_eq_true_eq]; exact hd
      rw [this, Bool.false_and]
    rw [this]; rfl

theorem sum_adds (p : Key → Bool) (f : Cnt → Ev → Cnt) (h : ∀ e : Ev, e.err = 0 → ∀ c : Cnt, (c.1 + (((keysOf e.mi e.au e.gs e.ss).countP p : Nat) : Int), c.2 + (((keysOf e.mi e.au e.gs e.ss).countP p : Nat) : Int) * e.b) = f c e) :
    ∀ (es : List Ev) (L : List (Key × Cnt)), sumBy p (addsL L es) = (okEvs es).foldl f (sumBy p L)
  | [], L => rfl
  | e :: r, L => by
    have ih := sum_adds p f h r (addL L e.mi e.au e.gs e.ss e.b)
    rw [show addsL L (e :: r) = addsL (addL L e.mi e.au e.gs e.ss e.b) r from rfl, ih]
    by_cases he : e.err = 0
    · have h1 : okEvs (e :: r) = e :: okEvs r := by unfold okEvs; rw [List.filter_cons, if_pos (by simpa using he)]
      have hs := sumBy_bumps p e.b (keysOf e.mi e.au e.gs e.ss) L
      have h2 : sumBy p (addL L e.mi e.au e.gs e.ss e.b) = f (sumBy p L) e := by
        have he' : evErr e.mi e.gs e.ss e.b = 0 := he
        rw [addL, if_pos he', ← h e he]
        exact Prod.ext hs.1 hs.2
      rw [h1, List.foldl_cons, h2]
    · have h1 : okEvs (e :: r) = okEvs r := by unfold okEvs; rw [List.filter_cons, if_neg (by simpa using he)]
      have he' : ¬ evErr e.mi e.gs e.ss e.b = 0 := he
      rw [h1, addL, if_neg he']
theorem sum_of (es : List Ev) (kind : Int) (name : ByteArray) (a b : Int) (hk : 1 ≤ kind) (hk3 : kind ≤ 3) (hn : ¬ name.toList = []) :
    sumBy (ofPred kind name a b) (addsL [] es) = ofM (okEvs es) kind name a b := by
  refine sum_adds _ _ (fun e he c => ?_) es []
  rw [hit_count e he kind name a b hk hk3 hn, ofStep]
  split <;> simp

theorem sum_zero (p : Key → Bool) : ∀ (es : List Ev) (L : List (Key × Cnt)), (∀ e ∈ es, e.err = 0 → (keysOf e.mi e.au e.gs e.ss).countP p = 0) → sumBy p (addsL L es) = sumBy p L
  | [], L, _ => rfl
  | e :: r, L, h => by
    have ih := sum_zero p r (addL L e.mi e.au e.gs e.ss e.b) (fun x hx => h x (by simp [hx]))
    rw [show addsL L (e :: r) = addsL (addL L e.mi e.au e.gs e.ss e.b) r from rfl, ih]
    by_cases he : e.err = 0
    · have he' : evErr e.mi e.gs e.ss e.b = 0 := he
      have hs := sumBy_bumps p e.b (keysOf e.mi e.au e.gs e.ss) L
      rw [h e (by simp) he] at hs
      rw [addL, if_pos he']
      exact Prod.ext (by simpa using hs.1) (by simpa using hs.2)
    · have he' : ¬ evErr e.mi e.gs e.ss e.b = 0 := he
      rw [addL, if_neg he']
theorem nil_of_toList {x : ByteArray} (h : x.toList = []) : x = ⟨#[]⟩ := bytes_beq_true (by rw [h, ByteArray.toList_eq]; rfl)
theorem gErr_ne {x : ByteArray} (h : gErr x = 0) : ¬ x.toList = [] := fun hx => by
  rw [nil_of_toList hx] at h
  exact absurd h (by decide +kernel)
theorem siteErr_ne {x : ByteArray} (h : siteErr x = 0) : ¬ x.toList = [] := fun hx => by
  rw [nil_of_toList hx, siteErr_none rfl] at h; cases h
theorem auText_ne {au : List UInt8} (h : au.length = 16) : ¬ (auText au).toList = [] := fun hx => by
  have h2 : (auText au).size = 32 := by rw [auText, mkS_size, hexL_length, h]
  rw [nil_of_toList hx] at h2; cases h2
theorem countP_none {l : List ByteArray} {name : ByteArray} (hn : name.toList = []) (h : ∀ x ∈ l, ¬ x.toList = []) : l.countP (fun x => x.toList == name.toList) = 0 := by
  rw [List.countP_eq_zero]
  intro x hx hh
  rw [hn] at hh
  exact h x hx (by simpa using hh)
theorem keys_none (e : Ev) (he : e.err = 0) (hau : e.au.length = 16) (kind : Int) (name : ByteArray) (a b : Int) (hk0 : kind ≠ 0) (h : name.toList = [] ∨ kind < 1 ∨ 3 < kind) :
    (keysOf e.mi e.au e.gs e.ss).countP (ofPred kind name a b) = 0 := by
  obtain ⟨hg, hs⟩ := evErr_facts he
  by_cases hk : 1 ≤ kind
  · rw [keys_count kind name a b _ _ _ _ hk]
    split
    · by_cases hk3 : kind ≤ 3
      · have hn : name.toList = [] := by
          rcases h with h | h | h
          · exact h
          · omega
          · omega
        rw [countP_none hn (fun x hx => gErr_ne ((glFrom_facts _ _ hg).2.2 x hx)), countP_none hn (fun x hx => siteErr_ne ((stFrom_facts _ _ hs).2.2 x hx)), countP_none hn (fun x hx => by rw [List.mem_singleton.1 hx]; exact auText_ne hau)]
        split
        · rfl
        · split
          · rfl
          · split <;> rfl
      · rw [if_neg (by omega), if_neg (by omega), if_neg (by omega)]
    · rfl
  · rw [List.countP_eq_zero]
    intro x hx
    have hx2 : 0 ≤ x.2.1 := by
      simp only [keysOf, List.mem_append, List.mem_cons, List.mem_map, List.mem_singleton, List.mem_nil_iff, or_false] at hx
      rcases hx with (((rfl | ⟨_, _, rfl⟩) | ⟨_, _, rfl⟩) | rfl) <;> simp
    simp only [ofPred, Bool.and_eq_true, beq_iff_eq]
    intro hh
    have := hh.1
    omega

/-- what the statement wants -/
def wantM (es : List Ev) (kind : Int) (name : ByteArray) (a b : Int) : Cnt := if name.toList = [] ∨ kind < 1 ∨ 3 < kind then (0, 0) else ofM (okEvs es) kind name a b
theorem plain_of (es : List Ev) (hau : ∀ e ∈ es, e.au.length = 16) (kind : Int) (name : ByteArray) (a b : Int) :
    zeroCnt kind (sumBy (ofPred kind name a b) (addsL [] es)) = wantM es kind name a b := by
  unfold zeroCnt wantM
  by_cases h0 : kind = 0
  · rw [if_pos h0, if_pos (by omega)]
  · rw [if_neg h0]
    by_cases h : name.toList = [] ∨ kind < 1 ∨ 3 < kind
    · rw [if_pos h, sum_zero _ _ _ (fun e he hr => keys_none e hr (hau e he) kind name a b h0 h)]; rfl
    · rw [if_neg h]
      exact sum_of es kind name a b (by omega) (by omega) (fun hn => h (Or.inl hn))
end Go.Proofs.YtlemadbmlnjhpaaGreatDoor
