/- Stats.Merge: the walk. -/
import Derived.Test.YtlemadbmlnjhpaaGreatDoorH8
import Derived.Test.YtlemadbmlnjhpaaGreatDoorH7
import Derived.Test.YtlemadbmlnjhpaaGreatDoorH6
import Derived.Test.YtlemadbmlnjhpaaGreatDoorG4
import Derived.Test.YtlemadbmlnjhpaaGreatDoorH3
import Derived.Deep.RegionHeld3
namespace Go.Proofs.YtlemadbmlnjhpaaGreatDoor
open Go Go.RowKit Go.Proofs
set_option linter.unusedSimpArgs false
set_option linter.unusedVariables false

/-- statistics that another's change does not touch -/
theorem StatsAt.kept {w w' : World} {sb m ob n B : Nat} {M : List (Key × Cnt)} {us : List Int} (h : StatsAt w ob n M us) (hk : Kept B sb m w w') (hB : w.heap.size ≤ B) (h1 : ob ≠ sb) (h2 : ob ≠ m) (h3 : n ≠ sb) (h4 : n ≠ m) : StatsAt w' ob n M us :=
  h.block (hk.block ob (by have := h.lt.1; omega) h1 h2) (hk.block n (by have := h.lt.2.1; omega) h3 h4)
/-- in the range over the other's counts -/
structure MergeAt (w wr : World) (sb m ob n it : Nat) (L M todo : List (Key × Cnt)) (zs us : List Int) : Prop where
  st : StatsAt wr sb m L zs
  other : StatsAt wr ob n M us
  rg : Ranging wr n it M todo
  kept : Kept w.heap.size sb m w wr
theorem MergeAt.below {w wr w' : World} {sb m ob n it : Nat} {L M todo : List (Key × Cnt)} {zs us : List Int} (h : MergeAt w wr sb m ob n it L M todo zs us) (hb : Below wr.heap.size wr w') : MergeAt w w' sb m ob n it L M todo zs us :=
  ⟨h.st.below hb, h.other.below hb, h.rg.block (hb.block _ h.rg.lt.1) (hb.block _ h.rg.lt.2.1), h.kept.below hb h.kept.size⟩
theorem MergeAt.next {w wr w4 : World} {sb m ob n it : Nat} {L M todo todo' : List (Key × Cnt)} {zs us : List Int} (h : MergeAt w wr sb m ob n it L M todo zs us) (hr : Ranging w4 n it M todo') (hg : wr.grownBy w4 (some it)) (d1 : sb < it) (d2 : m < it) (d3 : ob < it) (d4 : n < it) (hw : w.heap.size ≤ it) : MergeAt w w4 sb m ob n it L M todo' zs us := by
  have key : ∀ i, i < it → i < wr.heap.size → w4.heap[i]? = wr.heap[i]? := fun i h1 h2 => hg.block i h2 (fun e => by cases e; omega)
  refine ⟨h.st.block (key _ d1 h.st.lt.1) (key _ d2 h.st.lt.2.1), h.other.block (key _ d3 h.other.lt.1) (key _ d4 h.other.lt.2.1), hr, ?_⟩
  exact ⟨hg.os.trans h.kept.os, hg.tape.trans h.kept.tape, hg.output.trans h.kept.output, Nat.le_trans h.kept.size hg.size, fun i h1 h2 h3 => (key i (by omega) (by have := h.kept.size; omega)).trans (h.kept.block i h1 h2 h3)⟩
theorem MergeAt.update {w wr w' : World} {sb m ob n it : Nat} {L L' M todo : List (Key × Cnt)} {zs us : List Int} (h : MergeAt w wr sb m ob n it L M todo zs us) (hm : MapIs w' m L') (hg : wr.grownBy w' (some m)) (d1 : m < ob) (d2 : m < n) (d3 : m < it) : MergeAt w w' sb m ob n it L' M todo zs us := by
  have key : ∀ i, i ≠ m → i < wr.heap.size → w'.heap[i]? = wr.heap[i]? := fun i h1 h2 => hg.block i h2 (fun e => by cases e; exact h1 rfl)
  refine ⟨⟨(key sb h.st.lt.2.2 h.st.lt.1).trans h.st.1, h.st.2.1, hm⟩, h.other.block (key _ (by omega) h.other.lt.1) (key _ (by omega) h.other.lt.2.1), h.rg.block (key _ (by omega) h.rg.lt.1) (key _ (by omega) h.rg.lt.2.1), h.kept.grown hg h.kept.size⟩
theorem sizes_set2 (m : Nat) (zs : List Int) (n : Nat) (z : Int) (h : n < zs.length) :
    (Value.map (some m) :: zs.map (Value.int .i64)).toArray.setIfInBounds (1 + n) (.int .i64 z) = (Value.map (some m) :: (zs.set n z).map (Value.int .i64)).toArray := by
  rw [Nat.add_comm]
  simp [List.map_set]
theorem clone_any (sb m : Nat) (L : List (Key × Cnt)) (zs : List Int) (w : World) (h : StatsAt w sb m L zs) :
    Calls Tryz.prog 23 #[.pointer (some ⟨sb, 0, none⟩)] w fun e w' => e = .returned (.pointer (some ⟨w.heap.size + 1, 0, none⟩)) ∧ StatsAt w' (w.heap.size + 1) w.heap.size L zs ∧ Below w.heap.size w w' := by
  obtain ⟨z0, z1, z2, z3, z4, z5, z6, z7, z8, z9, z10, z11, z12, z13, z14, z15, z16, z17, rfl⟩ := list18 zs h.2.1
  exact clone_lit sb m L z0 z1 z2 z3 z4 z5 z6 z7 z8 z9 z10 z11 z12 z13 z14 z15 z16 z17 w h
set_option maxRecDepth 100000 in
set_option maxHeartbeats 6400000 in
theorem merge_any (sb m ob n : Nat) (L M : List (Key × Cnt)) (zs us : List Int) (w : World) (h1 : StatsAt w sb m L zs) (h2 : StatsAt w ob n M us) (hL : BndN L 400000) (hM : BndN M 400000) (hzs : SzN zs 1000000000) (hus : SzN us 1000000000) :
    Calls Tryz.prog 24 #[.pointer (some ⟨sb, 0, none⟩), .pointer (some ⟨ob, 0, none⟩)] w fun e w' => e = .returned (.int .i64 0) ∧ ∃ D, D.Perm M ∧ StatsAt w' sb m (mergeL L D) (plusZ zs us) ∧ Kept w.heap.size sb m w w' := by
  have hbL := hL.bnd (by omega)
  have hbM := hM.bnd (by omega)
  have hx1 := sumBy_bound isWhole hL.1
  have hx2 := sumBy_bound isWhole hM.1
  have hL2 := hL.2.1
  have hM2 := hM.2.1
  obtain ⟨x1, e1⟩ : ∃ x, x = (sumBy isWhole L).1 := ⟨_, rfl⟩
  obtain ⟨y1, e2⟩ : ∃ x, x = (sumBy isWhole L).2 := ⟨_, rfl⟩
  obtain ⟨x2, e3⟩ : ∃ x, x = (sumBy isWhole M).1 := ⟨_, rfl⟩
  obtain ⟨y2, e4⟩ : ∃ x, x = (sumBy isWhole M).2 := ⟨_, rfl⟩
  have t1 := fun W (h : StatsAt W sb m L zs) => total_any sb m L zs W h hbL
  have t2 := fun W (h : StatsAt W ob n M us) => total_any ob n M us W h hbM
  rw [← e1, ← e2] at t1
  rw [← e3, ← e4] at t2
  have hsum : 0 ≤ x1 ∧ 0 ≤ x2 ∧ x1 ≤ 400000 ∧ x2 ≤ 400000 := by rw [e1, e3]; omega
  obtain ⟨b1, b2, b3, b4⟩ := hsum
  have hf1 := Tryz.fld0 x1 y1
  have hf2 := Tryz.fld0 x2 y2
  have t1' := Lib.hid t1
  have t2' := Lib.hid t2
  have h1' := Lib.hid h1
  have h2' := Lib.hid h2
  have hL' := Lib.hid hL
  have hM' := Lib.hid hM
  have hzs' := Lib.hid hzs
  have hus' := Lib.hid hus
  clear t1 t2 h1 h2 hL hM hzs hus hbL hbM hx1 hx2 hL2 hM2 e1 e2 e3 e4
  go_enter Tryz.func24, Tryz.ntmps24
  go_wp2_with (go_at_call 11; fail)
  refine (t1'.out _ h1'.out).mono ?_
  rintro e w1 ⟨rfl, hb1⟩
  have hB1 := Lib.hid hb1
  clear hb1
  go_wp2_with (go_at_call 11; fail)
  refine (t2'.out _ (h2'.out.below hB1.out)).mono ?_
  rintro e w2 ⟨rfl, hb2⟩
  have hB2 := Lib.hid (hB1.out.trans (hb2.mono hB1.out.size))
  clear hb2
  go_wp2_with (go_at_call 23; fail)
  refine (clone_any ob n M us _ (h2'.out.below hB2.out)).mono ?_
  rintro e w3 ⟨rfl, hst3, hb3⟩
  obtain ⟨p, hp⟩ : ∃ p, p = w2.heap.size := ⟨_, rfl⟩
  rw [← hp] at hst3 ⊢
  have hSC3 := Lib.hid hst3
  have hB3 := Lib.hid (hB2.out.trans (hb3.mono hB2.out.size))
  have hS3 := Lib.hid (h1'.out.below hB3.out)
  have hpw : Hid (w.heap.size ≤ p) := by rw [hp]; exact hB2.out.size
  have hC0 := hst3.cell0
  have hMC := hst3.2.2
  clear hst3 hb3 hp hf1 hf2
  go_wp2_with (at_range; go_loud (refine wpList_range_map rfl _ rfl rfl hMC ?_); intro itb hrg)
  have hA0 : MergeAt w (w3.alloc itb) sb m (p + 1) p w3.heap.size L M M zs us :=
    ⟨hS3.out.below ((Below.refl _ _).alloc (Nat.le_refl _) _), hSC3.out.below ((Below.refl _ _).alloc (Nat.le_refl _) _), hrg, Kept.ofBelow (hB3.out.alloc hB3.out.size _)⟩
  obtain ⟨it, hit⟩ : ∃ i, i = w3.heap.size := ⟨_, rfl⟩
  have hlt3 : w.heap.size ≤ it := by rw [hit]; exact hB3.out.size
  rw [← hit] at hA0 ⊢
  have d3 : p + 1 < it := by rw [hit]; exact hSC3.out.lt.1
  have d1 : sb < p := Nat.lt_of_lt_of_le h1'.out.lt.1 hpw.out
  have d2 : m < p := Nat.lt_of_lt_of_le h1'.out.lt.2.1 hpw.out
  have hA0' := Lib.hid hA0
  clear hrg hA0 hit hMC hC0
  try simp only [Act.put, List.setIfInBounds_toArray, List.set_cons_zero, List.set_cons_succ]
  go_loopg [] M.length (fun cnt wr => ∃ done todo : List (Key × Cnt), cnt = todo.length ∧ M.Perm (done ++ todo) ∧ MergeAt w wr sb m (p + 1) p it (mergeL L done) M todo zs us)
  case atStart => exact ⟨[], M, rfl, by simp, hA0'.out⟩
  case round =>
    obtain ⟨done, todo, rfl, hpm, hA⟩ := hrel
    have hA' := Lib.hid hA
    have hpm' := Lib.hid hpm
    have hrg := hA.rg
    have hltA := hA.rg.lt
    clear hA hpm
    go_wp2_with (at_next; refine wpList_next_map rfl _ rfl rfl hrg ?_ ?_)
    · intro h0
      subst h0
      have hD : done.Perm M := by have := hpm'.out; rw [List.append_nil] at this; exact this.symm
      obtain ⟨C, hC⟩ : ∃ C, C = mergeL L done := ⟨_, rfl⟩
      rw [← hC] at hA'
      obtain ⟨cs, hcs⟩ : ∃ cs, cs = us.map (Value.int .i64) := ⟨_, rfl⟩
      have hrgz : wr.rangeAt (p + 1) 1 cs := by rw [hcs]; exact hA'.out.other.range
      have hul : us.length = 18 := hA'.out.other.2.1
      have hzl : zs.length = 18 := hA'.out.st.2.1
      have hcl : (Tryz.prog.info? 41).map (·.size) = some cs.length := by rw [hcs, List.length_map, hul]; exact Tryz.sizeArr
      have hix := Tryz.index_arr us hul
      rw [← hcs] at hix
      have hrgz' := Lib.hid hrgz
      have hcl' := Lib.hid hcl
      have hix' := Lib.hid hix
      have hD' := Lib.hid hD
      have hC' := Lib.hid hC
      have hS0 : StatsAt wr sb m C (partZ zs us 0) := by rw [partZ_zero]; exact hA'.out.st
      have hS0' := Lib.hid hS0
      clear hrgz hcl hix hcs hD hC hS0 hrg hpm'
      go_wp2_with (refine wpList_load_mid rfl 41 _ rfl (p + 1) 1 rfl cs _ hrgz'.out Tryz.underlying41 rfl hcl'.out ?_)
      go_loopw [54] (fun i wq => ∃ j : Nat, j ≤ 18 ∧ i = .int .i64 j ∧ StatsAt wq sb m C (partZ zs us j) ∧ Kept w.heap.size sb m w wq) (fun i _ => 18 - (intOf i).toNat)
      case atStart => exact ⟨0, by omega, rfl, hS0'.out, hA'.out.kept⟩
      case round =>
        obtain ⟨j, hj0, rfl, hS, hK⟩ := hrel
        have hS' := Lib.hid hS
        have hK' := Lib.hid hK
        clear hS hK
        by_cases hj : j < 18
        · have hi0 := hix'.out j hj
          have hgz := partZ_get (zs := zs) (us := us) (by omega) (i := j) (by omega)
          have hps := partZ_set (zs := zs) (us := us) (by omega) (i := j) (by omega)
          have hzm := hzs'.out _ (getD_mem_of (d := 0) (show j < zs.length by omega))
          have hum := hus'.out _ (getD_mem_of (d := 0) (show j < us.length by omega))
          obtain ⟨z, hz⟩ : ∃ z, z = zs.getD j 0 := ⟨_, rfl⟩
          obtain ⟨u, hu⟩ : ∃ u, u = us.getD j 0 := ⟨_, rfl⟩
          rw [← hu] at hi0 hps hum
          rw [← hz] at hgz hps hzm
          have hpl : (partZ zs us j).length = 18 := by rw [partZ_len (by omega) (by omega)]; exact hzl
          have q2 : wr.cell? ⟨sb, 1 + j, none⟩ = some (.int .i64 z) := by
            have hr := hS'.out.range j (.int .i64 z) (by rw [List.getElem?_map, List.getElem?_eq_getElem (by omega), ← hgz, List.getD_eq_getElem?_getD, List.getElem?_eq_getElem (by omega)]; rfl)
            exact hr
          have q3 : wr.frozen? ⟨sb, 1 + j, none⟩ = false := frozen_of_row _ _ _ _ _ hS'.out.1
          have hps' := Lib.hid hps
          have hpl' := Lib.hid hpl
          obtain ⟨hz1, hz2⟩ := hzm
          obtain ⟨hu1, hu2⟩ := hum
          clear hz hu hgz hps hpl
          have hx0 : (0 : Int) ≤ (j : Int) := by omega
          have hx1 : (j : Int) < 18 := by omega
          go_wp2_with fail
          refine wp_region_still_tail 11 (by kernel_rfl) (by kernel_rfl) ?_
          simp only [List.take_succ_cons, List.take_zero, List.drop_succ_cons, List.drop_zero]
          repeat still_step
          refine wpStill_nil ?_
          obtain ⟨w8, hw8⟩ : ∃ w8, w8 = wr.drew := ⟨_, rfl⟩
          have hS8 : StatsAt w8 sb m C (partZ zs us j) := by rw [hw8]; exact hS'.out.below ((Below.refl _ wr).drew)
          have hK8 : Kept w.heap.size sb m w w8 := by rw [hw8]; exact hK'.out.below ((Below.refl _ wr).drew) hK'.out.size
          have r2 : w8.cell? ⟨sb, 1 + j, none⟩ = some (.int .i64 z) := by rw [hw8]; exact q2
          have r3 : w8.frozen? ⟨sb, 1 + j, none⟩ = false := by rw [hw8]; exact q3
          change wpList _ _ _ _ _ wr.drew
          rw [← hw8]
          have hS8' := Lib.hid hS8
          have hK8' := Lib.hid hK8
          clear q2 q3 hS8 hK8 hw8
          go_wp2_with fail
          refine ⟨⟨j + 1, by omega, by go_num, ?_, hK8'.out.setCell _ _⟩, by simp [intOf]; omega⟩
          have hs8 := hS8'.out
          refine ⟨?_, ?_, hs8.2.2.block (heap_setCell_other _ _ _ _ (by simp; exact fun e => hs8.lt.2.2 e.symm))⟩
          · rw [heap_setCell_same _ _ _ _ _ _ hs8.1, ← hps'.out]
            congr 2
            exact sizes_set2 _ _ _ _ (by have := hpl'.out; omega)
          · rw [← hps'.out, List.length_set]; exact hpl'.out
        · obtain rfl : j = 18 := by omega
          go_wp2_with fail
          go_ret
          refine ⟨rfl, done, hD'.out, ?_, hK'.out⟩
          have := hS'.out
          rw [show (18 : Nat) = zs.length from hzl.symm, partZ_all (by omega)] at this
          rw [← hC'.out]; exact this
    · intro k1 k2 k3 c1 c2 todo' w4 hperm hrg1 hg1 hsz1 hen
      have hpm2 : M.Perm (done ++ ((k1, k2, k3), (c1, c2)) :: todo') := hpm'.out.trans (List.Perm.append_left _ hperm)
      have hpm3 : M.Perm ((done ++ [((k1, k2, k3), (c1, c2))]) ++ todo') := by simpa using hpm2
      have hnonL := hL'.out.1
      have hnonM := hM'.out.1
      have hnonD : ∀ q ∈ done, 0 ≤ q.2.1 ∧ 0 ≤ q.2.2 := fun q hq => hnonM q (hpm2.mem_iff.2 (by simp [hq]))
      have hsumM := sumBy_perm (fun _ => true) hpm2
      have hsa := sumBy_app (fun _ => true) done (((k1, k2, k3), (c1, c2)) :: todo')
      have hcq := hnonM ((k1, k2, k3), (c1, c2)) (hpm2.mem_iff.2 (by simp))
      have htd := sumBy_bound (fun _ => true) (L := todo') (fun q hq => hnonM q (hpm2.mem_iff.2 (by simp [hq])))
      have hdd := sumBy_bound (fun _ => true) (L := done) hnonD
      have hM2 := hM'.out.2
      have hL2 := hL'.out.2
      rw [hsumM, hsa.1, hsa.2] at hM2
      simp only [sumBy, if_true] at hM2 hcq
      have hbcur : Bnd (mergeL L done) := bnd_merge hnonL hnonD (by omega) (by omega)
      obtain ⟨e1, e2, e3, e4⟩ := getL_bound (k := (k1, k2, k3)) hbcur
      have hcb : 0 ≤ c1 ∧ c1 ≤ 1000000000000 ∧ 0 ≤ c2 ∧ c2 ≤ 1000000000000 := by omega
      obtain ⟨f1, f2, f3, f4⟩ := hcb
      -- the world behind the step
      have hA4 := hA'.out.next hrg1 hg1 (by omega) (by omega) (by omega) (by omega) hlt3
      obtain ⟨C, hC⟩ : ∃ C, C = mergeL L done := ⟨_, rfl⟩
      have hnext : Hid (mergeL L (done ++ [((k1, k2, k3), (c1, c2))]) = plusL C ((k1, k2, k3), (c1, c2))) := by show _ = _; rw [mergeL_snoc, hC]
      rw [← hC] at hA4 hbcur e1 e2 e3 e4
      obtain ⟨g1, hg1x⟩ : ∃ x, x = (getL (k1, k2, k3) C).1 := ⟨_, rfl⟩
      obtain ⟨g2, hg2x⟩ : ∃ x, x = (getL (k1, k2, k3) C).2 := ⟨_, rfl⟩
      have hplus : Hid (plusL C ((k1, k2, k3), (c1, c2)) = putL (k1, k2, k3) (g1 + c1, g2 + c2) C) := by show _ = _; rw [hg1x, hg2x]; rfl
      rw [← hg1x] at e1 e2
      rw [← hg2x] at e3 e4
      obtain ⟨W, hW⟩ : ∃ W, W = (w4.alloc (.cells #[.int .i64 k1, .int .i64 k2, .string k3] 64)).alloc (.cells #[.int .i64 c1, .int .i64 c2] 34) := ⟨_, rfl⟩
      have hbW : Below w4.heap.size w4 W := by rw [hW]; exact ((Below.refl _ _).alloc (Nat.le_refl _) _).alloc (by simp) _
      have hAW := hA4.below hbW
      have hk1 : W.heap[w4.heap.size]? = some (.cells #[.int .i64 k1, .int .i64 k2, .string k3] 64 (0, 0)) := by rw [hW]; exact heap_alloc2_old _ _ _
      have hk2 : W.heap[w4.heap.size + 1]? = some (.cells #[.int .i64 c1, .int .i64 c2] 34 (0, 0)) := by rw [hW]; exact heap_alloc2_new _ _ _
      have hlk : (Instr.lookup 70 (.map (some m)) (.agg #[.int .i64 k1, .int .i64 k2, .string k3]) false).run Tryz.prog W.drew = .ok (.agg #[.int .i64 g1, .int .i64 g2]) W.drew := by
        have := MapIs.lookup (w := W.drew) (show MapIs W.drew m C from hAW.st.2.2) (k1, k2, k3)
        rw [hg1x, hg2x]; exact this
      have c0 := hAW.st.cell0
      have q0 : W.cell? ⟨w4.heap.size, 0, none⟩ = some (.int .i64 k1) := by rw [cell_of_row _ _ _ _ _ _ hk1]; rfl
      have q1 : W.cell? ⟨w4.heap.size, 1, none⟩ = some (.int .i64 k2) := by rw [cell_of_row _ _ _ _ _ _ hk1]; rfl
      have q2 : W.cell? ⟨w4.heap.size, 2, none⟩ = some (.string k3) := by rw [cell_of_row _ _ _ _ _ _ hk1]; rfl
      have q3 : W.cell? ⟨w4.heap.size + 1, 0, none⟩ = some (.int .i64 c1) := by rw [cell_of_row _ _ _ _ _ _ hk2]; rfl
      have q4 : W.cell? ⟨w4.heap.size + 1, 1, none⟩ = some (.int .i64 c2) := by rw [cell_of_row _ _ _ _ _ _ hk2]; rfl
      have lt1 : sb < W.heap.size := World.block_lt_of_cell? W _ c0
      have lt2 : w4.heap.size < W.heap.size := World.block_lt_of_cell? W _ q0
      have lt3 : w4.heap.size + 1 < W.heap.size := World.block_lt_of_cell? W _ q3
      have hm4 : m < w4.heap.size := hA4.st.lt.2.1
      have n1 : sb ≠ m := hA4.st.lt.2.2
      have n2 : w4.heap.size ≠ m := by omega
      have n3 : w4.heap.size + 1 ≠ m := by omega
      have hAW' := Lib.hid hAW
      have hW' := Lib.hid hW
      have hlen := hperm.length_eq
      have hpm4 := Lib.hid hpm3
      have hen' := hen
      clear hpm2 hpm3 hnonL hnonM hnonD hsumM hsa hcq htd hdd hM2 hL2 hbcur hA4 hC hg1x hg2x hW hbW hAW hk1 hk2 hrg hrg1 hg1 hsz1 hltA hperm hm4
      go_wp2_with fail
      rw [← hW'.out]
      go_wp2_with fail
      go_region_held3 (fun w' => w'.cell? ⟨sb, 0, none⟩ = some (.map (some m)) ∧ w'.cell? ⟨w4.heap.size, 0, none⟩ = some (.int .i64 k1) ∧ w'.cell? ⟨w4.heap.size, 1, none⟩ = some (.int .i64 k2) ∧ w'.cell? ⟨w4.heap.size, 2, none⟩ = some (.string k3) ∧ w'.cell? ⟨w4.heap.size + 1, 0, none⟩ = some (.int .i64 c1) ∧ w'.cell? ⟨w4.heap.size + 1, 1, none⟩ = some (.int .i64 c2))
        (refine ⟨?_, ?_, ?_, ?_, ?_, ?_⟩ <;> first | assumption | (simp [*]; done))
        (first | (go_at_call 47; refine (plus_any _ _ _ _ _ ⟨e1, e2⟩ ⟨e3, e4⟩ ⟨f1, f2⟩ ⟨f3, f4⟩).mono ?_; rintro e W1 ⟨rfl, hb1⟩; have j0 : W1.cell? ⟨sb, 0, none⟩ = some (.map (some m)) := (hb1.cell (p := ⟨sb, 0, none⟩) lt1).trans c0; have j1 : W1.cell? ⟨w4.heap.size, 0, none⟩ = some (.int .i64 k1) := (hb1.cell (p := ⟨w4.heap.size, 0, none⟩) lt2).trans q0; have j2 : W1.cell? ⟨w4.heap.size, 1, none⟩ = some (.int .i64 k2) := (hb1.cell (p := ⟨w4.heap.size, 1, none⟩) lt2).trans q1; have j3 : W1.cell? ⟨w4.heap.size, 2, none⟩ = some (.string k3) := (hb1.cell (p := ⟨w4.heap.size, 2, none⟩) lt2).trans q2; have j4 : W1.cell? ⟨w4.heap.size + 1, 0, none⟩ = some (.int .i64 c1) := (hb1.cell (p := ⟨w4.heap.size + 1, 0, none⟩) lt3).trans q3; have j5 : W1.cell? ⟨w4.heap.size + 1, 1, none⟩ = some (.int .i64 c2) := (hb1.cell (p := ⟨w4.heap.size + 1, 1, none⟩) lt3).trans q4; have hA1 := hAW'.out.below ((Below.refl _ W).drew.trans hb1); obtain ⟨W2, hup, hm2, hg2⟩ := hA1.st.2.2.update (k1, k2, k3) (g1 + c1, g2 + c2); have hup2 : (Instr.mapUpdate 70 (.map (some m)) (.agg #[.int .i64 k1, .int .i64 k2, .string k3]) (.agg #[.int .i64 (g1 + c1), .int .i64 (g2 + c2)])).run Tryz.prog W1 = .ok () W2 := hup; have hA2 := Lib.hid (hA1.update hm2 hg2 (by omega) (by omega) (by omega)); clear hup; have z0 := hg2.cell j0 (by simp; exact n1); have z1 := hg2.cell j1 (by simp; exact n2); have z2 := hg2.cell j2 (by simp; exact n2); have z3 := hg2.cell j3 (by simp; exact n2); have z4 := hg2.cell j4 (by simp; exact n3); have z5 := hg2.cell j5 (by simp; exact n3); clear hm2 hg2 hA1 hb1))
      have hpl := Lib.hid hlen
      clear c0 q0 q1 q2 q3 q4 j0 j1 j2 j3 j4 j5 z0 z1 z2 z3 z4 z5 hlk hup2 hen hen' hlen
      go_wp2_with fail
      go_roundg todo'.length
      case measure => have := hpl.out; simp at this; omega
      case rel => exact ⟨done ++ [((k1, k2, k3), (c1, c2))], todo', rfl, hpm4.out, by rw [hnext.out, hplus.out]; exact hA2.out⟩
end Go.Proofs.YtlemadbmlnjhpaaGreatDoor
