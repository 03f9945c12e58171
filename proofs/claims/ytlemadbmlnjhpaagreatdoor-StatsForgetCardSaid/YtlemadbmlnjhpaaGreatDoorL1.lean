/- Slices of numbers; numbers; the model's sizes. -/
import Derived.Test.YtlemadbmlnjhpaaGreatDoorKI
namespace Go.Proofs.YtlemadbmlnjhpaaGreatDoor
open Go Go.RowKit Go.Proofs
set_option linter.unusedSimpArgs false
set_option linter.unusedVariables false

/-- a slice of numbers in memory -/
def SliceInt (w : World) (v : Value) (zs : List Int) : Prop :=
  (∃ A c, v = .slice A 0 c ∧ zs = []) ∨ ∃ b o c, v = .slice (some ⟨b, o, none⟩) zs.length c ∧ (c ≤ 9223372036854775807 ∧ zs.length ≤ c) ∧ b < w.heap.size ∧ ∀ j, j < zs.length → w.cell? ⟨b, o + j, none⟩ = some (.int .i64 (zs.getD j 0))
theorem SliceInt.below {w w' : World} {v : Value} {zs : List Int} (h : SliceInt w v zs) (hb : Below w.heap.size w w') : SliceInt w' v zs := by
  rcases h with h | ⟨b, o, c, h1, h2, h4, h5⟩
  · exact .inl h
  · exact .inr ⟨b, o, c, h1, h2, by have := hb.size; omega, fun j hj => (hb.cell (p := ⟨b, o + j, none⟩) h4).trans (h5 j hj)⟩
theorem SliceInt.form {w : World} {v : Value} {zs : List Int} (h : SliceInt w v zs) : ∃ A c, v = .slice A zs.length c ∧ zs.length ≤ 9223372036854775807 ∧ ∀ k, k < zs.length → ∃ bb o, A = some ⟨bb, o, none⟩ ∧ w.cell? ⟨bb, o + k, none⟩ = some (.int .i64 (zs.getD k 0)) := by
  rcases h with ⟨A, c, rfl, rfl⟩ | ⟨bb, o, c, rfl, g1, g3, g4⟩
  · exact ⟨_, _, rfl, by simp, fun k hk => by simp at hk⟩
  · exact ⟨_, _, rfl, by omega, fun k hk => ⟨bb, o, rfl, g4 k hk⟩⟩
theorem list_ext_getD {a b : List Int} (hl : a.length = b.length) (h : ∀ j, j < a.length → a.getD j 0 = b.getD j 0) : a = b := by
  refine List.ext_getElem hl fun i h1 h2 => ?_
  have := h i h1
  rw [List.getD_eq_getElem?_getD, List.getD_eq_getElem?_getD, List.getElem?_eq_getElem h1, List.getElem?_eq_getElem h2] at this
  simpa using this

set_option maxHeartbeats 1600000 in
theorem numbers_any (u v : Value) (a b : List Int) (w : World) (ha : SliceInt w u a) (hb : SliceInt w v b) :
    Calls Tryz.prog 13 #[u, v] w fun e w' => e = .returned (.bool (decide (a = b))) ∧ Below w.heap.size w w' := by
  obtain ⟨ua, uc, rfl, hul, huf⟩ := ha.form
  obtain ⟨va, vc, rfl, hvl, hvf⟩ := hb.form
  have huf' := Lib.hid huf
  have hvf' := Lib.hid hvf
  clear huf hvf ha hb
  by_cases hl : a.length = b.length
  · have hli : (((a.length : Nat) : Int) != ((b.length : Nat) : Int)) = false := by simp [hl]
    have hl' := Lib.hid hl
    clear hl
    go_enter Tryz.func13, Tryz.ntmps13
    go_wp2_with fail
    clear hli
    go_loopw [5] (fun i wr => ∃ k : Nat, Upto a.length k (fun j => a.getD j 0 = b.getD j 0) ∧ i = .int .i64 k ∧ Below w.heap.size w wr) (fun i _ => a.length - (intOf i).toNat)
    case atStart => exact ⟨0, Upto.zero _ _, rfl, Below.refl _ _⟩
    case round =>
      obtain ⟨k, hup, rfl, hbl⟩ := hrel
      have hup' := Lib.hid hup
      have hbl' := Lib.hid hbl
      clear hup hbl
      by_cases hk : k < a.length
      · obtain ⟨bb, o, rfl, hc⟩ := huf'.out k hk
        obtain ⟨bd, od, rfl, hd⟩ := hvf'.out k (by rw [← hl'.out]; exact hk)
        have hkb : k < b.length := by rw [← hl'.out]; exact hk
        obtain ⟨x, hx⟩ : ∃ x, x = a.getD k 0 := ⟨_, rfl⟩
        obtain ⟨y, hy⟩ : ∃ x, x = b.getD k 0 := ⟨_, rfl⟩
        rw [← hx] at hc
        rw [← hy] at hd
        have hc' : wr.cell? ⟨bb, o + k, none⟩ = some (.int .i64 x) := (hbl'.out.cell (p := ⟨bb, o + k, none⟩) (World.block_lt_of_cell? w _ hc)).trans hc
        have hd' : wr.cell? ⟨bd, od + k, none⟩ = some (.int .i64 y) := (hbl'.out.cell (p := ⟨bd, od + k, none⟩) (World.block_lt_of_cell? w _ hd)).trans hd
        have hx' := Lib.hid hx
        have hy' := Lib.hid hy
        clear hc hd hx hy
        by_cases hxy : x = y
        · have hq : (x != y) = false := by simp [hxy]
          go_wp2_with fail
          go_quiet (fail)
          go_wp2_with fail
          exact ⟨⟨k + 1, hup'.out.next hk (by rw [← hx'.out, ← hy'.out]; exact hxy), by go_num, below_drewN' hbl'.out _⟩, by simp [intOf]; omega⟩
        · have hq : (x != y) = true := by simpa using hxy
          go_wp2_with fail
          go_quiet (fail)
          go_wp2_with fail
          go_ret
          refine ⟨ret_bool ?_, below_drewN' hbl'.out _⟩
          symm
          rw [decide_eq_false_iff_not]
          intro h
          exact hxy (by rw [hx'.out, hy'.out, h])
      · go_wp2_with fail
        go_ret
        refine ⟨ret_bool ?_, hbl'.out⟩
        symm
        rw [decide_eq_true_eq]
        exact list_ext_getD hl'.out (fun j hj => hup'.out.2 j (by omega))
  · have hli : (((a.length : Nat) : Int) != ((b.length : Nat) : Int)) = true := by simp; omega
    go_enter Tryz.func13, Tryz.ntmps13
    go_wp2_with fail
    go_ret
    refine ⟨ret_bool ?_, Below.refl _ _⟩
    symm
    rw [decide_eq_false_iff_not]
    intro h
    exact hl (by rw [h])
end Go.Proofs.YtlemadbmlnjhpaaGreatDoor
