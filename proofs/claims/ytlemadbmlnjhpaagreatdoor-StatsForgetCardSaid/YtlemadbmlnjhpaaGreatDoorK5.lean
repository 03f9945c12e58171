/- The contracts of the reference's Component, Parts, Check and CheckList (layer 12). -/
import Derived.Test.YtlemadbmlnjhpaaGreatDoorK4
import Derived.Maps.AppendAt
import Derived.Deep.AppendLies
namespace Go.Proofs.YtlemadbmlnjhpaaGreatDoor
open Go Go.RowKit Go.Proofs
set_option linter.unusedSimpArgs false
set_option linter.unusedVariables false

set_option maxHeartbeats 1600000 in
theorem refcomponent_any (s : ByteArray) (w : World) (hs : s.size ≤ 9223372036854775807) :
    Calls Tryz.prog 98 #[.string s] w fun e w' => e = .returned (.bool (compB s)) ∧ w = w' := by
  by_cases h0 : s.size = 0
  · have h0' : s.size < 1 := by omega
    clear hs
    go_enter Tryz.func98, Tryz.ntmps98
    go_wp2_with fail
    go_ret
    exact ⟨ret_bool (by simp [compB, h0]), rfl⟩
  · have hpos : 0 < s.size := by omega
    by_cases h20 : 20 < s.size
    · go_enter Tryz.func98, Tryz.ntmps98
      go_wp2_with fail
      go_ret
      exact ⟨ret_bool (by simp [compB]; omega), rfl⟩
    · have h20' : s.size ≤ 20 := by omega
      clear h20 h0
      have hb0 := Lib.hid (bt_at s 0 hpos)
      by_cases hl : 97 ≤ s[0].toNat ∧ s[0].toNat ≤ 122
      · obtain ⟨hl1, hl2⟩ := hl
        have hlow : Hid (lowN (bt s 0) = true) := by rw [← hb0.out]; exact (lowN_iff _).2 ⟨hl1, hl2⟩
        go_enter Tryz.func98, Tryz.ntmps98
        go_wp2_with fail
        go_loop [3] (fun c => ∃ k : Nat, 1 ≤ k ∧ Upto s.size k (fun j => permN (bt s j) = true) ∧ c = .int .i64 k) (fun c => s.size - (intOf c).toNat)
        case atStart => exact ⟨1, Nat.le_refl _, (Upto.zero _ _).next hpos (lowN_perm hlow.out), rfl⟩
        case round =>
          obtain ⟨k, hk1, hup, rfl⟩ := hrel
          have hup' := Lib.hid hup
          clear hup
          by_cases hk : k < s.size
          · have hb' := Lib.hid (bt_at s k hk)
            clear hl1 hl2
            go_wp2_with fail
            all_goals first
              | (go_ret
                 refine ⟨ret_bool (compB_bad hk ?_).symm, rfl⟩
                 rw [← hb'.out, permN_not]
                 simp only [Bool.not_eq_true', Bool.not_eq_false', decide_eq_true_eq, decide_eq_false_iff_not, beq_iff_eq, beq_eq_false_iff_ne, ne_eq] at *
                 omega)
              | (refine ⟨⟨k + 1, by omega, hup'.out.next hk ?_, by go_num⟩, by simp [intOf]; omega⟩
                 rw [← hb'.out, permN_iff]
                 simp only [Bool.not_eq_true', Bool.not_eq_false', decide_eq_true_eq, decide_eq_false_iff_not, beq_iff_eq, beq_eq_false_iff_ne, ne_eq] at *
                 omega)
          · go_wp2_with fail
            go_ret
            exact ⟨ret_bool (compB_true hpos h20' hlow.out (fun j hj => hup'.out.2 j (by omega))).symm, rfl⟩
      · have hlow : lowN (bt s 0) = false := by rw [← hb0.out]; exact (lowN_not _).2 hl
        have hlow' := Lib.hid hlow
        clear hlow
        by_cases h1 : s[0].toNat < 97
        · clear hl
          go_enter Tryz.func98, Tryz.ntmps98
          go_wp2_with fail
          go_ret
          exact ⟨ret_bool (by simp [compB, hlow'.out]), rfl⟩
        · have h2 : 122 < s[0].toNat := by omega
          clear hl
          go_enter Tryz.func98, Tryz.ntmps98
          go_wp2_with fail
          go_ret
          exact ⟨ret_bool (by simp [compB, hlow'.out]), rfl⟩

theorem Tryz.infoStr : (Tryz.prog.info? 9).map (fun i => (i.zero, i.size, i.bytes)) = some (some (.string ByteArray.empty), 1, 16) := by kernel_rfl

/-- a slice of the call's own that holds strings reads as these strings -/
theorem sliceStr_own {w : World} {base : Nat} {e : TypeId} {v : Value} {zs : List ByteArray} (h : w.ownsRow base e 1 v zs.length (zs.map Value.string)) (hc : zs.length ≤ 9223372036854775807) (hz : ∀ z ∈ zs, z.size ≤ 9223372036854775807) : SliceStr w v zs := by
  by_cases h0 : zs.length = 0
  · obtain rfl : zs = [] := List.eq_nil_of_length_eq_zero h0
    obtain ⟨h1, h2⟩ := h
    rcases h2 with ⟨rfl, _⟩ | ⟨g, cap, cur, rfl, _⟩
    · exact .inl ⟨_, _, rfl, rfl⟩
    · exact .inl ⟨_, _, rfl, rfl⟩
  · obtain ⟨h1, h2⟩ := h
    rcases h2 with ⟨rfl, hn⟩ | ⟨g, cap, cur, rfl, hb, hg, h3, h4, h5, h6⟩
    · exact absurd hn h0
    · have hlt : g < w.heap.size := (Array.getElem?_eq_some_iff.1 hg).1
      refine .inr ⟨g, 0, cap, rfl, h3, ⟨by unfold maxLen at h4; omega, hc⟩, hlt, fun j hj => ?_, hz⟩
      rw [cell_of_row w g (0 + j) cur e (0, 0) hg]
      have : (cur.toList.take (zs.length * 1))[j]? = (zs.map Value.string)[j]? := by rw [h6]
      rw [List.getElem?_take, if_pos (by omega), List.getElem?_map, List.getElem?_eq_getElem hj] at this
      simp [List.getElem?_eq_getElem hj]
      simpa using this

theorem mkS_append (a b : List UInt8) : mkS (a ++ b) = mkS a ++ mkS b := by
  rw [← mkS_data (mkS a ++ mkS b)]
  simp [mkS]
/-- what Parts has after k bytes -/
def PartsAt (s : ByteArray) (c : UInt8) (k : Nat) (out : List ByteArray) (part : ByteArray) : Prop :=
  k ≤ s.size ∧ (foldP c (s.data.toList.take k)).1.map mkS = out ∧ mkS (foldP c (s.data.toList.take k)).2 = part
theorem PartsAt.zero (s : ByteArray) (c : UInt8) : PartsAt s c 0 [] ⟨#[]⟩ := ⟨Nat.zero_le _, rfl, rfl⟩
theorem take_snoc (s : ByteArray) (k : Nat) (h : k < s.size) : s.data.toList.take (k + 1) = s.data.toList.take k ++ [s[k]] := by
  rw [List.take_succ_eq_append_getElem (by simpa using h)]; rfl
theorem PartsAt.hit {s : ByteArray} {c : UInt8} {k : Nat} {out : List ByteArray} {part : ByteArray} (h : PartsAt s c k out part) (hk : k < s.size) (hc : s[k] = c) : PartsAt s c (k + 1) (out ++ [part]) ⟨#[]⟩ := by
  obtain ⟨h1, h2, h3⟩ := h
  refine ⟨hk, ?_, ?_⟩
  · rw [take_snoc s k hk, foldP_snoc, stepP, if_pos hc, ← h2, ← h3]; simp
  · rw [take_snoc s k hk, foldP_snoc, stepP, if_pos hc]; rfl
theorem PartsAt.miss {s : ByteArray} {c : UInt8} {k : Nat} {out : List ByteArray} {part : ByteArray} (h : PartsAt s c k out part) (hk : k < s.size) (hc : s[k] ≠ c) : PartsAt s c (k + 1) out (part ++ s.extract k (k + 1)) := by
  obtain ⟨h1, h2, h3⟩ := h
  refine ⟨hk, ?_, ?_⟩
  · rw [take_snoc s k hk, foldP_snoc, stepP, if_neg hc, ← h2]
  · rw [take_snoc s k hk, foldP_snoc, stepP, if_neg hc, ← h3]
    have e : s.extract k (k + 1) = mkS [s[k]] := by
      have h := Lib.extract_data s k (k + 1)
      have hk' : k < s.data.toList.length := by rw [← Lib.size_eq]; exact hk
      rw [List.drop_eq_getElem_cons hk', show k + 1 - k = 1 by omega] at h
      rw [← mkS_data (s.extract k (k + 1)), h]
      rfl
    rw [e, mkS_append]
theorem PartsAt.done {s : ByteArray} {c : UInt8} {k : Nat} {out : List ByteArray} {part : ByteArray} (h : PartsAt s c k out part) (hk : ¬ k < s.size) : partsB c s = out ++ [part] := by
  obtain ⟨h1, h2, h3⟩ := h
  have e : s.data.toList.take k = s.data.toList := List.take_of_length_le (by rw [← Lib.size_eq]; omega)
  rw [e] at h2 h3
  rw [partsB, partsL, List.map_append, h2, List.map_cons, h3]; rfl
theorem PartsAt.le {s : ByteArray} {c : UInt8} {k : Nat} {out : List ByteArray} {part : ByteArray} (h : PartsAt s c k out part) : out.length ≤ k ∧ part.size ≤ k := by
  obtain ⟨h1, h2, h3⟩ := h
  obtain ⟨g1, g2, _⟩ := foldP_le c (s.data.toList.take k)
  have hl : (s.data.toList.take k).length ≤ k := List.length_take_le _ _
  rw [← h2, ← h3, Lib.size_eq, mkS_toList, List.length_map]
  omega

def PartsEnd (zs : List ByteArray) (w : World) (e : Ending) (w' : World) : Prop := (∃ v, e = .returned v ∧ SliceStr w' v zs) ∧ Below w.heap.size w w'

set_option maxHeartbeats 1600000 in
theorem parts_any (s : ByteArray) (c : UInt8) (w : World) (hs : s.size ≤ 1000000) :
    Calls Tryz.prog 97 #[.string s, .int .u8 (c.toNat : Int)] w (PartsEnd (partsB c s) w) := by
  obtain ⟨i0, hi, hz0, hz1, hz2⟩ := info_parts Tryz.infoStr
  go_enter Tryz.func97, Tryz.ntmps97
  go_wp2_with fail
  go_loopw [5, 6, 7] (fun v p i wr => ∃ (k : Nat) (out : List ByteArray) (part : ByteArray), PartsAt s c k out part ∧ p = .string part ∧ i = .int .i64 k ∧ wr.ownsRow w.heap.size 9 1 v out.length (out.map Value.string) ∧ Below w.heap.size w wr) (fun _ _ i _ => s.size - (intOf i).toNat)
  case atStart => exact ⟨0, [], ⟨#[]⟩, PartsAt.zero _ _, rfl, rfl, World.ownsRow_nil _ _ _ _, Below.refl _ _⟩
  case round =>
    obtain ⟨k, out, part, hat, rfl, rfl, hown, hbel⟩ := hrel
    have hle := hat.le
    have hk0 : k ≤ s.size := hat.1
    obtain ⟨hle1, hle2⟩ := hle
    have hat' := Lib.hid hat
    clear hat
    by_cases hk : k < s.size
    · by_cases hc : s[k] = c
      · have hcb : ((s[k].toNat : Int) == (c.toNat : Int)) = true := by rw [hc]; simp
        have hc' := Lib.hid hc
        clear hc
        go_wp2_with (at_builtin; refine wpList_append_own _ rfl _ _ 25 rfl w.heap.size 9 i0 (.string ByteArray.empty) 1 16 Tryz.underlying25 hi hz0 hz1 hz2 rfl (by decide) _ _ _ rfl (hown.alloc _) ⟨wr.heap.size, 0, none⟩ 1 1 [.string part] rfl rfl ?c1 ?c2 ?c3 ?c4 ?c5 ?_)
        case c1 => exact cell_one_new _ _ _
        case c2 => intro u hu; simp at hu; subst hu; rfl
        case c3 => unfold maxLen; omega
        case c4 => omega
        case c5 => have := hbel.size; simp; omega
        intro v' w1 hown' hgrow _
        have hb1 : Below w.heap.size w w1 := (hbel.alloc hbel.size _).grown hgrow (by have := hbel.size; simp; omega) (fun j hj => (hown.lt j hj).1)
        clear hgrow hown
        have hown2 : w1.ownsRow w.heap.size 9 1 v' (out ++ [part]).length ((out ++ [part]).map Value.string) := by simpa using hown'
        clear hown'
        have hown3 := Lib.hid hown2
        have hb3 := Lib.hid hb1
        clear hown2 hb1
        go_wp2_with fail
        exact ⟨⟨k + 1, out ++ [part], ⟨#[]⟩, hat'.out.hit hk hc'.out, rfl, by go_num, hown3.out, hb3.out⟩, by simp [intOf]; omega⟩
      · have hcb : ((s[k].toNat : Int) == (c.toNat : Int)) = false := by
          rw [beq_eq_false_iff_ne]; intro he; exact hc (UInt8.toNat_inj.1 (by omega))
        have hc' := Lib.hid hc
        clear hc
        have hown' := Lib.hid hown
        have hbel' := Lib.hid hbel
        clear hown hbel
        go_wp2_with fail
        exact ⟨⟨k + 1, out, _, hat'.out.miss hk hc'.out, rfl, by go_num, hown'.out, hbel'.out⟩, by simp [intOf]; omega⟩
    · have hd := Lib.hid (hat'.out.done hk)
      go_wp2_with (at_builtin; refine wpList_append_own _ rfl _ _ 25 rfl w.heap.size 9 i0 (.string ByteArray.empty) 1 16 Tryz.underlying25 hi hz0 hz1 hz2 rfl (by decide) _ _ _ rfl (hown.alloc _) ⟨wr.heap.size, 0, none⟩ 1 1 [.string part] rfl rfl ?c1 ?c2 ?c3 ?c4 ?c5 ?_)
      case c1 => exact cell_one_new _ _ _
      case c2 => intro u hu; simp at hu; subst hu; rfl
      case c3 => unfold maxLen; omega
      case c4 => omega
      case c5 => have := hbel.size; simp; omega
      intro v' w1 hown' hgrow _
      have hb1 : Below w.heap.size w w1 := (hbel.alloc hbel.size _).grown hgrow (by have := hbel.size; simp; omega) (fun j hj => (hown.lt j hj).1)
      clear hgrow hown
      have hown2 : w1.ownsRow w.heap.size 9 1 v' (out ++ [part]).length ((out ++ [part]).map Value.string) := by simpa using hown'
      clear hown'
      rw [← hd.out] at hown2
      have hfin := Lib.hid (sliceStr_own hown2 (by have := partsB_le c s; omega) (fun z hz => by have := mem_partsB hz; omega))
      have hb3 := Lib.hid hb1
      clear hown2 hb1
      go_wp2_with fail
      go_ret
      exact ⟨⟨v', rfl, hfin.out⟩, hb3.out⟩

set_option maxHeartbeats 800000 in
theorem refcheck_any (s : ByteArray) (w : World) (hs : s.size ≤ 9223372036854775807) :
    Calls Tryz.prog 78 #[.string s] w fun e w' => e = .returned (.int .i64 (gErr s)) ∧ Below w.heap.size w w' := by
  by_cases h0 : 80 < s.size
  · go_enter Tryz.func78, Tryz.ntmps78
    go_wp2_with fail
    go_ret
    exact ⟨ret_int (gErr_long h0).symm, Below.refl _ _⟩
  · have h1 : s.size ≤ 80 := by omega
    clear h0
    obtain ⟨zs, hzs⟩ : ∃ zs, zs = partsB 46 s := ⟨_, rfl⟩
    have hsp := parts_any s 46 w (by omega)
    have hl : zs.length ≤ 81 := by rw [hzs]; have := partsB_le 46 s; omega
    have hsz : ∀ z ∈ zs, z.size ≤ 80 := fun z hz => by rw [hzs] at hz; have := mem_partsB hz; omega
    rw [← hzs] at hsp
    have hzs' := Lib.hid hzs
    have hsp' := Lib.hid hsp
    have hsz' := Lib.hid hsz
    clear hzs hsp hsz
    go_enter Tryz.func78, Tryz.ntmps78
    go_wp2_with (go_at_call 97; refine hsp'.out.mono ?_; rintro e w1 ⟨⟨v, rfl, hv⟩, hb1⟩; have hv' := Lib.hid hv; have hb' := Lib.hid hb1; clear hv hb1)
    have hvv := hv'.out
    rcases hvv with ⟨A, c, rfl, rfl⟩ | ⟨b, o, c, rfl, g1, g2, g3, g4, g5⟩
    · exact absurd hzs'.out (by unfold partsB partsL; simp)
    · have g4' := Lib.hid g4
      clear g4 g5
      go_loop [4] (fun i => ∃ k : Nat, Upto zs.length k (fun j => compB (zs.getD j ByteArray.empty) = true) ∧ i = .int .i64 k) (fun i => zs.length - (intOf i).toNat)
      case atStart => exact ⟨0, Upto.zero _ _, rfl⟩
      case round =>
        obtain ⟨k, hup, rfl⟩ := hrel
        have hup' := Lib.hid hup
        clear hup
        by_cases hk : k < zs.length
        · obtain ⟨z, hzk⟩ : ∃ z, z = zs.getD k ByteArray.empty := ⟨_, rfl⟩
          have hcell : w1.cell? ⟨b, o + k, none⟩ = some (.string z) := by rw [hzk]; exact g4'.out k hk
          have hszz : z.size ≤ 80 := by rw [hzk]; exact hsz'.out _ (getD_mem hk)
          have hzk' := Lib.hid hzk
          clear hzk
          go_wp2_with (go_at_call 98; refine (refcomponent_any _ _ (by omega)).mono ?_; rintro e w' ⟨rfl, rfl⟩)
          · have hf : compB z = false := by simpa using (by assumption : (!compB z) = true)
            go_ret
            refine ⟨ret_int (gErr_name h1 ?_).symm, hb'.out⟩
            rw [← hzs'.out, List.any_eq_true]
            exact ⟨z, by rw [hzk'.out]; exact getD_mem hk, by rw [hf]; rfl⟩
          · have hf : compB z = true := by simpa using (by assumption : (!compB z) = false)
            exact ⟨⟨k + 1, hup'.out.next hk (by rw [← hzk'.out]; exact hf), by go_num⟩, by simp [intOf]; omega⟩
        · have hall : ∀ z ∈ zs, compB z = true := fun z hz => by
            obtain ⟨j, hj, rfl⟩ := List.mem_iff_getElem.1 hz
            have h : compB (zs.getD j ByteArray.empty) = true := hup'.out.2 j (by omega)
            rwa [List.getD_eq_getElem?_getD, List.getElem?_eq_getElem hj] at h
          have hall' := Lib.hid hall
          clear hall hup'
          go_wp2_with fail
          all_goals
            have hn : ((partsB 46 s).any fun z => !compB z) = false := by
              rw [← hzs'.out, List.any_eq_false]; intro z hz; rw [hall'.out z hz]; decide
            go_ret
            refine ⟨ret_int ?_, hb'.out⟩
            first
              | exact (gErr_limit h1 hn (by rw [← hzs'.out]; omega)).symm
              | exact (gErr_ok h1 hn (by rw [← hzs'.out]; omega)).symm

/-- no string before place j of the first k ones is the one at k -/
theorem contains_upto {zs : List ByteArray} {k : Nat} {z : ByteArray} (h : ∀ j, j < k → zs.getD j ByteArray.empty ≠ z) (hk : k ≤ zs.length) : Lib.containsS (zs.take k) z = false := by
  rw [← Bool.not_eq_true, Lib.containsS_iff]
  intro hm
  obtain ⟨j, hj⟩ := List.mem_iff_getElem?.1 hm
  rw [List.getElem?_take] at hj
  split at hj
  · rename_i hjk
    exact h j hjk (by rw [List.getD_eq_getElem?_getD, hj]; rfl)
  · cases hj
theorem contains_at {zs : List ByteArray} {k j : Nat} {z : ByteArray} (hj : j < k) (hk : k ≤ zs.length) (h : zs.getD j ByteArray.empty = z) : Lib.containsS (zs.take k) z = true := by
  rw [Lib.containsS_iff]
  refine List.mem_iff_getElem?.2 ⟨j, ?_⟩
  rw [List.getElem?_take, if_pos hj, List.getElem?_eq_getElem (by omega)]
  rw [← h, List.getD_eq_getElem?_getD, List.getElem?_eq_getElem (by omega : j < zs.length)]; rfl
theorem bytes_beq_true {a b : ByteArray} (h : (a.toList == b.toList) = true) : a = b := by
  have h2 : a.toList = b.toList := eq_of_beq h
  rw [ByteArray.toList_eq, ByteArray.toList_eq] at h2
  rw [← mkS_data a, ← mkS_data b, h2]
theorem bytes_beq_false {a b : ByteArray} (h : (a.toList == b.toList) = false) : a ≠ b := by
  intro e; subst e; simp at h

set_option maxHeartbeats 1600000 in
theorem checklist_some (b o c : Nat) (zs : List ByteArray) (w : World) (hn : zs.length ≤ c) (hcc : c ≤ 9223372036854775807 ∧ zs.length ≤ 9223372036854775807) (hb : b < w.heap.size) (hc : ∀ j, j < zs.length → w.cell? ⟨b, o + j, none⟩ = some (.string (zs.getD j ByteArray.empty))) (hz : ∀ z ∈ zs, z.size ≤ 9223372036854775807) :
    Calls Tryz.prog 56 #[.slice (some ⟨b, o, none⟩) zs.length c] w fun e w' => e = .returned (.int .i64 (glErr zs)) ∧ Below w.heap.size w w' := by
  have hc' := Lib.hid hc
  have hz' := Lib.hid hz
  clear hc hz
  by_cases h20 : 20 < zs.length
  · go_enter Tryz.func56, Tryz.ntmps56
    go_wp2_with fail
    go_ret
    exact ⟨ret_int (by rw [glErr, if_pos h20]), Below.refl _ _⟩
  · have h20' : zs.length ≤ 20 := by omega
    clear h20
    go_enter Tryz.func56, Tryz.ntmps56
    go_wp2_with fail
    go_loopw [3] (fun i wr => ∃ k : Nat, GlAt zs k ∧ i = .int .i64 k ∧ Below w.heap.size w wr) (fun i _ => zs.length - (intOf i).toNat)
    case atStart => exact ⟨0, GlAt.zero h20', rfl, Below.refl _ _⟩
    case round =>
      obtain ⟨k, hgl, rfl, hbel⟩ := hrel
      have hgl' := Lib.hid hgl
      have hbel' := Lib.hid hbel
      clear hgl hbel
      by_cases hk : k < zs.length
      · obtain ⟨z, hzk⟩ : ∃ z, z = zs.getD k ByteArray.empty := ⟨_, rfl⟩
        have hcell : wr.cell? ⟨b, o + k, none⟩ = some (.string z) := by rw [hzk]; exact (hbel'.out.cell (p := ⟨b, o + k, none⟩) hb).trans (hc'.out k hk)
        have hsz : z.size ≤ 9223372036854775807 := by rw [hzk]; exact hz'.out _ (getD_mem hk)
        have hzk' := Lib.hid hzk
        clear hzk
        obtain ⟨ge, hge⟩ : ∃ ge, ge = gErr z := ⟨_, rfl⟩
        have hck : ∀ W, Calls Tryz.prog 78 #[.string z] W fun e w' => e = .returned (.int .i64 ge) ∧ Below W.heap.size W w' := fun W => by rw [hge]; exact refcheck_any z W (by omega)
        have hge' := Lib.hid hge
        have hck' := Lib.hid hck
        clear hge hck
        by_cases h0 : ge = 0
        · subst h0
          go_wp2_with (go_at_call 78; refine (hck'.out _).mono ?_; rintro e w1 ⟨rfl, hb1⟩; have hb2 := Lib.hid (hbel'.out.trans (hb1.mono hbel'.out.size)); clear hb1)
          clear hcell
          go_loopw [5] (fun i wq => ∃ m : Nat, Upto k m (fun j => zs.getD j ByteArray.empty ≠ z) ∧ i = .int .i64 m ∧ Below w.heap.size w wq) (fun i _ => k - (intOf i).toNat)
          case atStart => exact ⟨0, Upto.zero _ _, rfl, hb2.out⟩
          case round =>
            obtain ⟨m, hum, rfl, hbq⟩ := hrel
            have hum' := Lib.hid hum
            have hbq' := Lib.hid hbq
            clear hum hbq
            by_cases hm : m < k
            · obtain ⟨y, hym⟩ : ∃ y, y = zs.getD m ByteArray.empty := ⟨_, rfl⟩
              have hcm : wr.cell? ⟨b, o + m, none⟩ = some (.string y) := by rw [hym]; exact (hbq'.out.cell (p := ⟨b, o + m, none⟩) hb).trans (hc'.out m (by omega))
              have hck2 : wr.cell? ⟨b, o + k, none⟩ = some (.string z) := by rw [hzk'.out]; exact (hbq'.out.cell (p := ⟨b, o + k, none⟩) hb).trans (hc'.out k hk)
              have hym' := Lib.hid hym
              clear hym
              go_wp2_with fail
              go_quiet (fail)
              go_wp2_with fail
              · have hyz : y = z := bytes_beq_true (by assumption)
                have he := hgl'.out.dup hk (by rw [← hzk'.out]; exact hge'.out.symm) (contains_at hm (by omega) (by rw [← hym'.out, ← hzk'.out]; exact hyz))
                go_ret
                exact ⟨ret_int he.symm, below_drewN' hbq'.out _⟩
              · have hyz : y ≠ z := bytes_beq_false (by assumption)
                exact ⟨⟨m + 1, hum'.out.next hm (by rw [← hym'.out]; exact hyz), by go_num, below_drewN' hbq'.out _⟩, by simp [intOf]; omega⟩
            · go_wp2_with fail
              exact ⟨⟨k + 1, hgl'.out.next hk (by rw [← hzk'.out]; exact hge'.out.symm) (by rw [← hzk'.out]; exact contains_upto (fun j hj => hum'.out.2 j (by omega)) (by omega)), by go_num, hbq'.out⟩, by simp [intOf]; omega⟩
        · have h0' : (ge == 0) = false := beq_eq_false_iff_ne.2 h0
          go_wp2_with (go_at_call 78; refine (hck'.out _).mono ?_; rintro e w1 ⟨rfl, hb1⟩)
          have hg : gErr (zs.getD k ByteArray.empty) = ge := by rw [← hzk'.out]; exact hge'.out.symm
          have he := hgl'.out.err hk (by rw [hg]; exact h0)
          rw [hg] at he
          go_ret
          exact ⟨ret_int he.symm, hbel'.out.trans (hb1.mono hbel'.out.size)⟩
      · go_wp2_with fail
        go_ret
        exact ⟨ret_int (hgl'.out.done hk).symm, hbel'.out⟩
theorem checklist_any (v : Value) (zs : List ByteArray) (w : World) (hv : SliceStr w v zs) :
    Calls Tryz.prog 56 #[v] w fun e w' => e = .returned (.int .i64 (glErr zs)) ∧ Below w.heap.size w w' := by
  rcases hv with ⟨A, c, rfl, rfl⟩ | ⟨b, o, c, rfl, h1, h2, h3, h4, h5⟩
  · go_enter Tryz.func56, Tryz.ntmps56
    go_wp2_with fail
    refine wp_loop_once ?_
    go_wp2_with fail
    go_ret
    exact ⟨rfl, Below.refl _ _⟩
  · exact checklist_some b o c zs w h1 h2 h3 h4 h5
end Go.Proofs.YtlemadbmlnjhpaaGreatDoor
