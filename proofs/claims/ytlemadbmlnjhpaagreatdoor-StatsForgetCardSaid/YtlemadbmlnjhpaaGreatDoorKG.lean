/- few. -/
import Derived.Test.YtlemadbmlnjhpaaGreatDoorKF
namespace Go.Proofs.YtlemadbmlnjhpaaGreatDoor
open Go Go.RowKit Go.Proofs
set_option linter.unusedSimpArgs false
set_option linter.unusedVariables false

def FewEnd (es : List Ev) (w : World) (e : Ending) (w' : World) : Prop := (∃ fb : Bool, e = .returned (.bool fb) ∧ (fb = true → es.length ≤ 20)) ∧ w = w'
set_option maxRecDepth 100000 in
set_option maxHeartbeats 3200000 in
theorem few_any (v : Value) (es : List Ev) (w : World) (hv : SliceEv w v es) : Calls Tryz.prog 9 #[v] w (FewEnd es w) := by
  obtain ⟨va, vc, rfl, hlen, hvf⟩ := hv.form
  have hvf' := Lib.hid hvf
  clear hvf hv
  go_enter Tryz.func9, Tryz.ntmps9
  go_wp2_with fail
  go_loop [3] (fun i => ∃ k : Nat, k ≤ es.length ∧ i = .int .i64 k) (fun i => es.length - (intOf i).toNat)
  case atStart => exact ⟨0, by omega, rfl⟩
  case round =>
    obtain ⟨k, hk0, rfl⟩ := hrel
    by_cases hk : k < es.length
    · obtain ⟨bb, o, cs, rfl, hrg, v1, v2, v3, v4, v5, v6, v7, v8, v9, v10, v11, v12, v13, v14, v15, v16, g, sv, rfl, hau, hg, hs, _, _⟩ := hvf'.out k es[k] (List.getElem?_eq_getElem hk)
      obtain ⟨gs, hgs⟩ : ∃ x, x = es[k].gs := ⟨_, rfl⟩
      obtain ⟨ss, hss⟩ : ∃ x, x = es[k].ss := ⟨_, rfl⟩
      rw [← hgs] at hg
      rw [← hss] at hs
      clear hgs hss
      obtain ⟨ga, gc, rfl, hgf⟩ := hg.form
      obtain ⟨sa, sc, rfl, hsf⟩ := hs.form
      have hgl := hg.len_le
      have hsl := hs.len_le
      have q17 := hrg 17 _ rfl
      have q18 := hrg 18 _ rfl
      have hgf' := Lib.hid hgf
      have hsf' := Lib.hid hsf
      clear hgf hsf hg hs hrg hau
      go_wp2_with fail
      go_loop [4, 5] (fun n i => ∃ (x : Int) (j : Nat), j ≤ gs.length ∧ n = .int .i64 x ∧ i = .int .i64 j) (fun _ i => gs.length - (intOf i).toNat)
      case atStart => exact ⟨0, 0, by omega, rfl, rfl⟩
      case round =>
        obtain ⟨x, j, hj0, rfl, rfl⟩ := hrel
        by_cases hj : j < gs.length
        · obtain ⟨bg, og, rfl, hc⟩ := hgf'.out j hj
          obtain ⟨z, hz⟩ : ∃ z, z = gs.getD j ByteArray.empty := ⟨_, rfl⟩
          rw [← hz] at hc
          clear hz
          go_wp2_with fail
          exact ⟨⟨_, j + 1, by omega, rfl, by go_num⟩, by simp [intOf]; omega⟩
        · go_wp2_with fail
          go_loop [4, 6] (fun n i => ∃ (x : Int) (j : Nat), j ≤ ss.length ∧ n = .int .i64 x ∧ i = .int .i64 j) (fun _ i => ss.length - (intOf i).toNat)
          case atStart => exact ⟨x, 0, by omega, rfl, rfl⟩
          case round =>
            obtain ⟨y, m, hm0, rfl, rfl⟩ := hrel
            by_cases hm : m < ss.length
            · obtain ⟨bs, os, rfl, hc⟩ := hsf'.out m hm
              obtain ⟨z, hz⟩ : ∃ z, z = ss.getD m ByteArray.empty := ⟨_, rfl⟩
              rw [← hz] at hc
              clear hz
              go_wp2_with fail
              exact ⟨⟨_, m + 1, by omega, rfl, by go_num⟩, by simp [intOf]; omega⟩
            · by_cases h30 : 30 < gs.length
              · go_wp2_with fail
                go_ret
                exact ⟨⟨false, rfl, fun h => by cases h⟩, rfl⟩
              · have h30' : gs.length ≤ 30 := by omega
                clear h30
                by_cases h80 : 80 < ss.length
                · go_wp2_with fail
                  go_ret
                  exact ⟨⟨false, rfl, fun h => by cases h⟩, rfl⟩
                · have h80' : ss.length ≤ 80 := by omega
                  clear h80
                  by_cases h4 : 4000 < y
                  · go_wp2_with fail
                    go_ret
                    exact ⟨⟨false, rfl, fun h => by cases h⟩, rfl⟩
                  · have h4' : y ≤ 4000 := by omega
                    clear h4
                    go_wp2_with fail
                    exact ⟨⟨k + 1, by omega, by go_num⟩, by simp [intOf]; omega⟩
    · go_wp2_with fail
      go_ret
      exact ⟨⟨_, rfl, fun h => by simp at h; omega⟩, rfl⟩
end Go.Proofs.YtlemadbmlnjhpaaGreatDoor
