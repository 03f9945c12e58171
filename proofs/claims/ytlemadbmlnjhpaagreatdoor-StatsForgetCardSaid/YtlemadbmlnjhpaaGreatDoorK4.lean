/- The contracts of groupname's list and FormatList and of the reference's Component, Parts, Check and CheckList. -/
import Derived.Test.YtlemadbmlnjhpaaGreatDoorK3
namespace Go.Proofs.YtlemadbmlnjhpaaGreatDoor
open Go Go.RowKit Go.Proofs
set_option linter.unusedSimpArgs false
set_option linter.unusedVariables false

/-- the error of the names of a list, of which those in seen stood before -/
def glFrom (seen : List ByteArray) : List ByteArray → Int
  | [] => 0
  | z :: r => if gErr z ≠ 0 then gErr z else if Lib.containsS seen z then 7 else glFrom (seen ++ [z]) r
def glErr (zs : List ByteArray) : Int := if 20 < zs.length then 9 else glFrom [] zs
theorem glFrom_at (zs : List ByteArray) {k : Nat} (h : k < zs.length) : glFrom (zs.take k) (zs.drop k) = if gErr (zs.getD k ByteArray.empty) ≠ 0 then gErr (zs.getD k ByteArray.empty) else if Lib.containsS (zs.take k) (zs.getD k ByteArray.empty) then 7 else glFrom (zs.take (k + 1)) (zs.drop (k + 1)) := by
  rw [List.drop_eq_getElem_cons h, glFrom, List.getD_eq_getElem?_getD, List.getElem?_eq_getElem h, Option.getD_some, List.take_succ_eq_append_getElem h]
def GlAt (zs : List ByteArray) (k : Nat) : Prop := k ≤ zs.length ∧ glErr zs = glFrom (zs.take k) (zs.drop k)
theorem GlAt.zero {zs : List ByteArray} (h : zs.length ≤ 20) : GlAt zs 0 := ⟨Nat.zero_le _, by rw [glErr, if_neg (by omega)]; simp⟩
theorem GlAt.err {zs : List ByteArray} {k : Nat} (h : GlAt zs k) (hk : k < zs.length) (he : gErr (zs.getD k ByteArray.empty) ≠ 0) : glErr zs = gErr (zs.getD k ByteArray.empty) := by
  rw [h.2, glFrom_at zs hk, if_pos he]
theorem GlAt.dup {zs : List ByteArray} {k : Nat} (h : GlAt zs k) (hk : k < zs.length) (he : gErr (zs.getD k ByteArray.empty) = 0) (hd : Lib.containsS (zs.take k) (zs.getD k ByteArray.empty) = true) : glErr zs = 7 := by
  rw [h.2, glFrom_at zs hk, if_neg (fun hn => hn he), if_pos hd]
theorem GlAt.next {zs : List ByteArray} {k : Nat} (h : GlAt zs k) (hk : k < zs.length) (he : gErr (zs.getD k ByteArray.empty) = 0) (hd : Lib.containsS (zs.take k) (zs.getD k ByteArray.empty) = false) : GlAt zs (k + 1) :=
  ⟨hk, by rw [h.2, glFrom_at zs hk, if_neg (fun hn => hn he), if_neg (by rw [hd]; decide)]⟩
theorem GlAt.done {zs : List ByteArray} {k : Nat} (h : GlAt zs k) (hk : ¬ k < zs.length) : glErr zs = 0 := by
  rw [h.2, List.drop_of_length_le (by omega)]; rfl
theorem gErr_small {s : ByteArray} (h : gErr s = 0) : s.size ≤ 80 := by
  unfold gErr at h; split at h
  · cases h
  · omega

def ListEnd (w : World) (v : Value) (err : Int) (e : Ending) (w' : World) : Prop :=
  (∃ u, e = .returned (.tuple #[u, .int .i64 err]) ∧ ((err = 0 ∧ u = v) ∨ (err ≠ 0 ∧ u = .slice none 0 0))) ∧ Below w.heap.size w w'

set_option maxHeartbeats 800000 in
theorem list_some (b o c : Nat) (zs : List ByteArray) (w : World) (hn : zs.length ≤ c) (hcc : c ≤ 9223372036854775807 ∧ zs.length ≤ 9223372036854775807) (hb : b < w.heap.size) (hc : ∀ j, j < zs.length → w.cell? ⟨b, o + j, none⟩ = some (.string (zs.getD j ByteArray.empty))) (hz : ∀ z ∈ zs, z.size ≤ 9223372036854775807) :
    Calls Tryz.prog 79 #[.slice (some ⟨b, o, none⟩) zs.length c] w (ListEnd w (.slice (some ⟨b, o, none⟩) zs.length c) (glErr zs)) := by
  have hc' := Lib.hid hc
  have hz' := Lib.hid hz
  clear hc hz
  by_cases h20 : 20 < zs.length
  · go_enter Tryz.func79, Tryz.ntmps79
    go_wp2_with fail
    go_ret2
    exact ⟨⟨_, ret_pair (by rw [glErr, if_pos h20]), .inr ⟨by rw [glErr, if_pos h20]; decide, rfl⟩⟩, Below.refl _ _⟩
  · have h20' : zs.length ≤ 20 := by omega
    clear h20
    go_enter Tryz.func79, Tryz.ntmps79
    go_wp2_with fail
    go_loopw [12] (fun i wr => ∃ k : Nat, GlAt zs k ∧ i = .int .i64 k ∧ Below w.heap.size w wr) (fun i _ => zs.length - (intOf i).toNat)
    case atStart => exact ⟨0, GlAt.zero h20', rfl, Below.refl _ _⟩
    case round =>
      obtain ⟨k, hgl, rfl, hbel⟩ := hrel
      have hgl' := Lib.hid hgl
      have hbel' := Lib.hid hbel
      clear hgl hbel
      by_cases hk : k < zs.length
      · obtain ⟨z, hzk⟩ : ∃ z, z = zs.getD k ByteArray.empty := ⟨_, rfl⟩
        have hcell : wr.cell? ⟨b, o + k, none⟩ = some (.string z) := by rw [hzk]; exact (hbel'.out.cell (p := ⟨b, o + k, none⟩) hb).trans (hc'.out k hk)
        have hsz : z.size ≤ 9223372036854775807 := by rw [hzk]; exact hz'.out _ (getD_mem hk)
        have hzk' := Lib.hid hzk
        clear hzk
        have hkc : k ≤ c := by omega
        obtain ⟨ge, hge⟩ : ∃ ge, ge = gErr z := ⟨_, rfl⟩
        have hck : ∀ W, Calls Tryz.prog 99 #[.string z] W fun e w' => e = .returned (.int .i64 ge) ∧ Below W.heap.size W w' := fun W => by rw [hge]; exact check_any z W (by omega)
        have hge' := Lib.hid hge
        have hck' := Lib.hid hck
        clear hge hck
        by_cases h0 : ge = 0
        · subst h0
          obtain ⟨dd, hdd⟩ : ∃ dd, dd = Lib.containsS (zs.take k) z := ⟨_, rfl⟩
          have hct : ∀ W, Below w.heap.size w W → Calls Tryz.prog 60 #[.slice (some ⟨b, o, none⟩) k c, .string z] W fun e w' => e = .returned (.bool dd) ∧ w' = W := fun W hbW => by
            rw [hdd]
            exact Tryz.slices_Contains_string b o k c zs z W (by omega) (by omega) (fun j hj => (hbW.cell (p := ⟨b, o + j, none⟩) hb).trans (hc'.out j hj))
          have hct' := Lib.hid hct
          have hdd' := Lib.hid hdd
          clear hct hdd
          have hbk : ∀ W, Below wr.heap.size wr W → Below w.heap.size w W := fun W h => hbel'.out.trans (h.mono hbel'.out.size)
          have hbk' := Lib.hid hbk
          clear hbk
          go_wp2_with (first
            | (go_at_call 99; refine (hck'.out _).mono ?_; rintro e w' ⟨rfl, hb1⟩)
            | (go_at_call 60; refine (hct'.out _ (hbk'.out _ hb1)).mono ?_; rintro e w' ⟨rfl, rfl⟩))
          · have hd : dd = true := by assumption
            rw [hdd'.out] at hd
            rw [hzk'.out] at hd hge'
            have he := hgl'.out.dup hk hge'.out.symm hd
            go_ret2
            exact ⟨⟨_, ret_pair he.symm, .inr ⟨by rw [he]; decide, rfl⟩⟩, hbk'.out _ hb1⟩
          · have hd : dd = false := by assumption
            rw [hdd'.out] at hd
            rw [hzk'.out] at hd hge'
            exact ⟨⟨k + 1, hgl'.out.next hk hge'.out.symm hd, by go_num, hbk'.out _ hb1⟩, by simp [intOf]; omega⟩
        · have h0' : (ge == 0) = false := beq_eq_false_iff_ne.2 h0
          go_wp2_with (go_at_call 99; refine (hck'.out _).mono ?_; rintro e w' ⟨rfl, hb1⟩)
          have hg : gErr (zs.getD k ByteArray.empty) = ge := by rw [← hzk'.out]; exact hge'.out.symm
          have he := hgl'.out.err hk (by rw [hg]; exact h0)
          rw [hg] at he
          go_ret2
          exact ⟨⟨_, ret_pair he.symm, .inr ⟨by rw [he]; exact h0, rfl⟩⟩, hbel'.out.trans (hb1.mono hbel'.out.size)⟩
      · go_wp2_with fail
        go_ret2
        have he := hgl'.out.done hk
        exact ⟨⟨_, ret_pair he.symm, .inl ⟨he, rfl⟩⟩, hbel'.out⟩

theorem list_any (v : Value) (zs : List ByteArray) (w : World) (hv : SliceStr w v zs) :
    Calls Tryz.prog 79 #[v] w (ListEnd w v (glErr zs)) := by
  rcases hv with ⟨A, c, rfl, rfl⟩ | ⟨b, o, c, rfl, h1, h2, h3, h4, h5⟩
  · go_enter Tryz.func79, Tryz.ntmps79
    go_wp2_with fail
    refine wp_loop_once ?_
    go_wp2_with fail
    go_ret2
    exact ⟨⟨_, rfl, .inl ⟨rfl, rfl⟩⟩, Below.refl _ _⟩
  · exact list_some b o c zs w h1 h2 h3 h4 h5

/-- FormatList's error, whatever its text -/
def fmtErr (zs : List ByteArray) : Int := if zs.length = 0 then 4 else glErr zs
def SomeStr (err : Int) (w : World) (e : Ending) (w' : World) : Prop := (∃ t : ByteArray, e = .returned (.tuple #[.string t, .int .i64 err])) ∧ Below w.heap.size w w'
def GlOk (zs : List ByteArray) : Prop := zs.length ≤ 20 ∧ ∀ z ∈ zs, z.size ≤ 80
theorem glFrom_zero : ∀ (r seen : List ByteArray), glFrom seen r = 0 → ∀ z ∈ r, gErr z = 0
  | [], _, _, _, hz => by cases hz
  | z :: r, seen, h, x, hx => by
    simp only [glFrom] at h
    split at h
    · rename_i hne; exact absurd h hne
    · rename_i hne
      split at h
      · cases h
      · rcases List.mem_cons.1 hx with rfl | hx
        · exact Classical.byContradiction hne
        · exact glFrom_zero r _ h x hx
theorem glErr_ok {zs : List ByteArray} (h : glErr zs = 0) : GlOk zs := by
  unfold glErr at h
  split at h
  · cases h
  · exact ⟨by omega, fun z hz => gErr_small (glFrom_zero zs [] h z hz)⟩
theorem joinTail_le (sep : List UInt8) : ∀ (l : List (List UInt8)), (∀ x ∈ l, x.length ≤ 80) → (Lib.joinTail sep l).length ≤ l.length * (80 + sep.length)
  | [], _ => by simp [Lib.joinTail]
  | x :: r, h => by
    have h1 := h x (by simp)
    have h2 := joinTail_le sep r (fun z hz => h z (by simp [hz]))
    unfold Lib.joinTail at *
    simp only [List.map_cons, List.flatten_cons, List.length_append, List.length_cons]
    have : (r.length + 1) * (80 + sep.length) = r.length * (80 + sep.length) + (80 + sep.length) := by rw [Nat.add_mul]; omega
    omega
theorem join_le (sep : List UInt8) (l : List (List UInt8)) (h : ∀ x ∈ l, x.length ≤ 80) : (Lib.join l sep).length ≤ 80 + l.length * (80 + sep.length) := by
  cases l with
  | nil => simp [Lib.join_nil]
  | cons x r =>
    have h1 := h x (by simp)
    have h2 := joinTail_le sep r (fun z hz => h z (by simp [hz]))
    rw [Lib.join_cons, List.length_append, List.length_cons]
    have : (r.length + 1) * (80 + sep.length) = r.length * (80 + sep.length) + (80 + sep.length) := by rw [Nat.add_mul]; omega
    omega
theorem join_any (v : Value) (zs : List ByteArray) (w : World) (hv : SliceStr w v zs) (hok : GlOk zs) :
    Calls Tryz.prog 40 #[v, .string ⟨#[44]⟩] w fun e w' => (∃ t : ByteArray, e = .returned (.string t)) ∧ Below w.heap.size w w' := by
  rcases hv with ⟨A, c, rfl, rfl⟩ | ⟨b, o, c, rfl, h1, h2, h3, h4, h5⟩
  · exact (Tryz.strings_Join_none A c _ w).mono fun e w' ⟨he, hw⟩ => ⟨⟨_, he⟩, by rw [hw]; exact Below.refl _ _⟩
  · refine (Tryz.strings_Join b o c zs ⟨#[44]⟩ w (fun j x hx => ?_) h3 (by have := hok.1; omega) h1 ?_).mono fun e w' ⟨he, hw⟩ => ⟨⟨_, he⟩, hw⟩
    · have hj := (List.getElem?_eq_some_iff.1 hx).1
      rw [h4 j hj, List.getD_eq_getElem?_getD, hx, Option.getD_some]
    · have hl := join_le [44] (zs.map fun x => x.data.toList) (fun x hx => by
        obtain ⟨z, hz, rfl⟩ := List.mem_map.1 hx
        rw [← Lib.size_eq]; exact hok.2 z hz)
      have := hok.1
      simp only [List.length_map, List.length_cons, List.length_nil] at hl
      show (Lib.join _ [44]).length ≤ _
      omega
def JoinEnd (w : World) (e : Ending) (w' : World) : Prop := (∃ t : ByteArray, e = .returned (.string t)) ∧ Below w.heap.size w w'

set_option maxHeartbeats 400000 in
theorem formatlist_any (v : Value) (zs : List ByteArray) (w : World) (hv : SliceStr w v zs) :
    Calls Tryz.prog 58 #[v] w (SomeStr (fmtErr zs) w) := by
  by_cases h0 : zs.length = 0
  · obtain rfl : zs = [] := List.eq_nil_of_length_eq_zero h0
    obtain ⟨A, c, rfl⟩ : ∃ A c, v = .slice A 0 c := by
      rcases hv with ⟨A, c, rfl, _⟩ | ⟨b, o, c, rfl, _⟩
      · exact ⟨_, _, rfl⟩
      · exact ⟨_, _, rfl⟩
    clear hv h0
    go_enter Tryz.func58, Tryz.ntmps58
    go_wp2_with fail
    go_ret2
    exact ⟨⟨_, rfl⟩, Below.refl _ _⟩
  · obtain ⟨A, n, c, hv1⟩ : ∃ A n c, v = .slice A n c := by
      rcases hv with ⟨A, c, rfl, _⟩ | ⟨b, o, c, rfl, _⟩
      · exact ⟨_, _, _, rfl⟩
      · exact ⟨_, _, _, rfl⟩
    have hn : n = zs.length := by
      rcases hv with ⟨A, c, h, rfl⟩ | ⟨b, o, c, h, _⟩
      · exact absurd rfl h0
      · rw [hv1] at h; simp at h; exact h.2.1
    subst hv1
    obtain ⟨ge, hge⟩ : ∃ ge, ge = glErr zs := ⟨_, rfl⟩
    have hl := list_any _ zs w hv
    have hfe : fmtErr zs = ge := by rw [fmtErr, if_neg h0, hge]
    rw [hfe]
    rw [← hge] at hl
    have hn0 : ((n : Int) == 0) = false := beq_eq_false_iff_ne.2 (by omega)
    have hl' := Lib.hid hl
    have hv' := Lib.hid hv
    have hge' := Lib.hid hge
    clear hl hv hge hfe hn h0
    by_cases he : ge = 0
    · subst he
      have hj : ∀ u W, (((0 : Int) = 0 ∧ u = Value.slice A n c) ∨ ((0 : Int) ≠ 0 ∧ u = .slice none 0 0)) → Below w.heap.size w W → Calls Tryz.prog 40 #[u, .string ⟨#[44]⟩] W (JoinEnd W) := fun u W hu hW => by
        rcases hu with ⟨_, rfl⟩ | ⟨h, _⟩
        · exact join_any _ zs W (hv'.out.below hW) (glErr_ok hge'.out.symm)
        · exact absurd rfl h
      have hj' := Lib.hid hj
      clear hj
      go_enter Tryz.func58, Tryz.ntmps58
      go_wp2_with (first
        | (go_at_call 79; refine hl'.out.mono ?_; rintro e w' ⟨⟨u, rfl, hu⟩, hb1⟩; have hu' := Lib.hid hu; clear hu)
        | (go_at_call 40; refine (hj'.out _ _ hu'.out hb1).mono ?_; rintro e w' ⟨⟨t, rfl⟩, hb2⟩))
      go_ret2
      exact ⟨⟨_, rfl⟩, hb1.trans (hb2.mono hb1.size)⟩
    · have hj : ∀ u W, ((ge = 0 ∧ u = Value.slice A n c) ∨ (ge ≠ 0 ∧ u = .slice none 0 0)) → Calls Tryz.prog 40 #[u, .string ⟨#[44]⟩] W (JoinEnd W) := fun u W hu => by
        rcases hu with ⟨h, _⟩ | ⟨_, rfl⟩
        · exact absurd h he
        · exact (Tryz.strings_Join_none none 0 _ W).mono fun e w' ⟨he, hw⟩ => ⟨⟨_, he⟩, by rw [hw]; exact Below.refl _ _⟩
      have hj' := Lib.hid hj
      clear hj
      go_enter Tryz.func58, Tryz.ntmps58
      go_wp2_with (first
        | (go_at_call 79; refine hl'.out.mono ?_; rintro e w' ⟨⟨u, rfl, hu⟩, hb1⟩; have hu' := Lib.hid hu; clear hu)
        | (go_at_call 40; refine (hj'.out _ _ hu'.out).mono ?_; rintro e w' ⟨⟨t, rfl⟩, hb2⟩))
      go_ret2
      exact ⟨⟨_, rfl⟩, hb1.trans (hb2.mono hb1.size)⟩
end Go.Proofs.YtlemadbmlnjhpaaGreatDoor
