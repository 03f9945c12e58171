/- The contract of stats.Add. -/
import Derived.Test.YtlemadbmlnjhpaaGreatDoorKC
import Derived.StillTailTactics
namespace Go.Proofs.YtlemadbmlnjhpaaGreatDoor
open Go Go.RowKit Go.Proofs
open Go.ChangeMaps (setBlock)
set_option linter.unusedSimpArgs false
set_option linter.unusedVariables false

def AddEnd (w : World) (sb m : Nat) (L : List (Key × Cnt)) (zs : List Int) (mi : Int) (au : List UInt8) (gs ss : List ByteArray) (b : Int) (e : Ending) (w' : World) : Prop :=
  e = .returned (.int .i64 (evErr mi gs ss b)) ∧ StatsAt w' sb m (addL L mi au gs ss b) (addZ zs mi gs ss b) ∧ Kept w.heap.size sb m w w'

theorem Tryz.fld0 (x y : Int) (w : World) : (Instr.field 34 (.agg #[.int .i64 x, .int .i64 y]) 0).run Tryz.prog w = .ok (.int .i64 x) w := by kernel_rfl
theorem Tryz.fld1 (x y : Int) (w : World) : (Instr.field 34 (.agg #[.int .i64 x, .int .i64 y]) 1).run Tryz.prog w = .ok (.int .i64 y) w := by kernel_rfl
theorem wrap_u64 (b : Int) (h : 0 ≤ b ∧ b ≤ 65536) : IntKind.u64.wrap b = b := by
  have := h.1; have := h.2
  simp [IntKind.wrap, IntKind.bits, IntKind.signed]
  omega
theorem sizes_set (m : Nat) (zs : List Int) (n : Nat) (z : Int) (h : n < zs.length) :
    (Value.map (some m) :: zs.map (Value.int .i64)).toArray.setIfInBounds (1 + n) (.int .i64 (z + 1)) = (Value.map (some m) :: (zs.set n (z + 1)).map (Value.int .i64)).toArray := by
  rw [Nat.add_comm]
  simp [List.map_set]
theorem take_getD {α : Type} {d : α} {l : List α} {k : Nat} (h : k < l.length) : l.take (k + 1) = l.take k ++ [l.getD k d] := by
  rw [List.take_succ_eq_append_getElem h, List.getD_eq_getElem?_getD, List.getElem?_eq_getElem h, Option.getD_some]
set_option maxRecDepth 100000 in
set_option maxHeartbeats 3200000 in
theorem add_lit (sb m : Nat) (L : List (Key × Cnt)) (zs : List Int) (N : Int) (mi : Int) (v1 v2 v3 v4 v5 v6 v7 v8 v9 v10 v11 v12 v13 v14 v15 v16 g sv : Value) (au : List UInt8) (hau : [v1, v2, v3, v4, v5, v6, v7, v8, v9, v10, v11, v12, v13, v14, v15, v16] = byteVals au) (b : Int) (gs ss : List ByteArray) (w : World)
    (hg : SliceStr w g gs) (hs : SliceStr w sv ss) (hst : StatsAt w sb m L zs) (hN : BndN L N) (hN0 : 0 ≤ N ∧ N ≤ 900000) (hz : SzN zs N) :
    Calls Tryz.prog 26 #[.pointer (some ⟨sb, 0, none⟩), .agg #[.int .i64 mi, v1, v2, v3, v4, v5, v6, v7, v8, v9, v10, v11, v12, v13, v14, v15, v16, g, sv, .int .i64 b]] w (AddEnd w sb m L zs mi au gs ss b) := by
  obtain ⟨W, hW⟩ : ∃ W, W = (w.alloc (.cells #[.pointer (some ⟨sb, 0, none⟩)] 30)).alloc (.cells #[.int .i64 mi, v1, v2, v3, v4, v5, v6, v7, v8, v9, v10, v11, v12, v13, v14, v15, v16, g, sv, .int .i64 b] 27) := ⟨_, rfl⟩
  have hbW : Below w.heap.size w W := by rw [hW]; exact ((Below.refl _ w).alloc (Nat.le_refl _) _).alloc (by simp) _
  have hWs : W.heap.size = w.heap.size + 1 + 1 := by rw [hW]; simp
  have c0 : W.heap[w.heap.size]? = some (.cells #[.pointer (some ⟨sb, 0, none⟩)] 30 (0, 0)) := by rw [hW]; exact heap_alloc2_old _ _ _
  have c1 : W.heap[w.heap.size + 1]? = some (.cells #[.int .i64 mi, v1, v2, v3, v4, v5, v6, v7, v8, v9, v10, v11, v12, v13, v14, v15, v16, g, sv, .int .i64 b] 27 (0, 0)) := by rw [hW]; exact heap_alloc2_new _ _ _
  have hck := evcheck_lit mi v1 v2 v3 v4 v5 v6 v7 v8 v9 v10 v11 v12 v13 v14 v15 v16 g sv b gs ss W (hg.below hbW) (hs.below hbW)
  obtain ⟨er, her⟩ : ∃ er, er = evErr mi gs ss b := ⟨_, rfl⟩
  rw [← her] at hck
  rw [hW] at hck
  have hstW := hst.below hbW
  have hck' := Lib.hid hck
  have hW' := Lib.hid hW
  have hbW' := Lib.hid hbW
  have hWs' := Lib.hid hWs
  have her' := Lib.hid her
  have hau' := Lib.hid hau
  have hg' := Lib.hid hg
  have hs' := Lib.hid hs
  have hst' := Lib.hid hst
  have hN' := Lib.hid hN
  have hz' := Lib.hid hz
  have c0' := Lib.hid c0
  have c1' := Lib.hid c1
  have hstW' := Lib.hid hstW
  clear hck hbW hWs her hau hg hs hst hN hz c0 c1 hstW hW
  by_cases he0 : er = 0
  · subst he0
    obtain ⟨⟨hm0, hm1⟩, ⟨hg1, hg2⟩, hs1, hb1, hb2⟩ := evErr_zero her'.out.symm
    obtain ⟨ga, gc, rfl, hgf⟩ := hg'.out.form
    obtain ⟨sa, sc, rfl, hsf⟩ := hs'.out.form
    clear hgf hsf
    have hwt : (sumBy isWhole L).1 < 1000000 := by have h1 := sumBy_bound isWhole hN'.out.1; have h2 := hN'.out.2.1; omega
    obtain ⟨tot, htot⟩ : ∃ t, t = (sumBy isWhole L).1 := ⟨_, rfl⟩
    rw [← htot] at hwt
    have htot' := Lib.hid htot
    clear htot
    go_enter Tryz.func26, Tryz.ntmps26
    go_wp2_with (refine wpList_load_row rfl 27 _ rfl (w.heap.size + 1) rfl _ _ _ _ (heap_alloc2_new _ _ _) Tryz.underlying27 rfl rfl ?_)
    go_at_call 31
    refine hck'.out.mono ?_
    rintro e w1 ⟨rfl, hb1⟩
    rw [← hW'.out] at hb1
    have s1 := hstW'.out.below hb1
    have k0 : w1.cell? ⟨w.heap.size, 0, none⟩ = some (.pointer (some ⟨sb, 0, none⟩)) := by rw [cell_of_row _ _ _ _ _ _ ((hb1.block _ (by have := hWs'.out; omega)).trans c0'.out)]; rfl
    have htt := total_any sb m L zs w1 s1 (hN'.out.bnd (by omega))
    rw [← htot'.out] at htt
    have htt' := Lib.hid htt
    have hb1' := Lib.hid hb1
    clear htt hb1 s1
    go_wp2_with (go_at_call 11; fail)
    refine htt'.out.mono ?_
    rintro e w2 ⟨rfl, hb2⟩
    have hb12 : Below W.heap.size W w2 := hb1'.out.trans (hb2.mono hb1'.out.size)
    have k1 : w2.cell? ⟨w.heap.size + 1, 0, none⟩ = some (.int .i64 mi) := by rw [cell_of_row _ _ _ _ _ _ ((hb12.block _ (by have := hWs'.out; omega)).trans c1'.out)]; rfl
    have hb12' := Lib.hid hb12
    clear hb12 hb2
    have hfl := Tryz.fld0 tot (sumBy isWhole L).2 w2
    obtain ⟨day, hday⟩ : ∃ day, day = mi / 1440 := ⟨_, rfl⟩
    have hdc := day_any mi w2 hm0 hm1
    rw [← hday] at hdc
    have hdc' := Lib.hid hdc
    have hday' := Lib.hid hday
    clear hdc hday
    obtain ⟨W3, hW3⟩ : ∃ W3, W3 = w2.alloc (.cells #[.int .i64 day] 3) := ⟨_, rfl⟩
    have A0 : AddAt w W3 w.heap.size (w.heap.size + 1) w2.heap.size sb m [.int .i64 mi, v1, v2, v3, v4, v5, v6, v7, v8, v9, v10, v11, v12, v13, v14, v15, v16, .slice ga gs.length gc, .slice sa ss.length sc, .int .i64 b] day L zs := by
      have hb3 : Below W.heap.size W W3 := by rw [hW3]; exact hb12'.out.alloc hb12'.out.size _
      refine ⟨?_, ?_, fun k v hk => ?_, hstW'.out.below hb3, Kept.ofBelow (hbW'.out.trans (hb3.mono hbW'.out.size))⟩
      · rw [cell_of_row _ _ _ _ _ _ ((hb3.block _ (by have := hWs'.out; omega)).trans c0'.out)]; rfl
      · rw [hW3, cell_of_row _ _ _ _ _ _ (heap_alloc_new w2 _)]; rfl
      · rw [cell_of_row _ _ _ _ _ _ ((hb3.block _ (by have := hWs'.out; omega)).trans c1'.out)]; simpa using hk
    have hc1 := addclos_any w2.heap.size w.heap.size (w.heap.size + 1) sb m 0 ⟨#[]⟩ day b L W3 A0.d A0.s (A0.e 19 _ rfl) A0.st.cell0 A0.st.2.2 (hN'.out.bnd (by omega)) ⟨hb1, hb2⟩
    rw [hW3] at hc1 A0
    have A0' := Lib.hid A0
    have hc1' := Lib.hid hc1
    have hW3' := Lib.hid hW3
    clear A0 hc1 hW3
    go_wp2_with (go_at_call 48; refine hdc'.out.mono ?_; rintro e w' ⟨rfl, hw⟩; obtain rfl := hw.symm)
    go_at_call 49
    refine hc1'.out.mono ?_
    rintro e w4 hce
    obtain ⟨rfl, A1⟩ := A0'.out.clos hce
    have A1' := Lib.hid A1
    clear A1 hce
    have r17 := A1'.out.e 17 _ rfl
    go_wp2_with fail
    have hbk : ∀ ks : List Key, ks.length ≤ 80 → Bnd (bumps L ks b) := fun ks hk => (BndN.bumps ⟨hb1, hb2⟩ hN'.out).bnd (by omega)
    have A1b : AddAt w w4 w.heap.size (w.heap.size + 1) w2.heap.size sb m [.int .i64 mi, v1, v2, v3, v4, v5, v6, v7, v8, v9, v10, v11, v12, v13, v14, v15, v16, .slice ga gs.length gc, .slice sa ss.length sc, .int .i64 b] day (bumps L ((day, 0, ByteArray.empty) :: (gs.take 0).map (fun g => (day, 1, g))) b) zs := A1'.out
    have A1b' := Lib.hid A1b
    have hbk' := Lib.hid hbk
    clear A1b hbk r17
    go_loopw [36] (fun i wr => ∃ k : Nat, k ≤ gs.length ∧ i = .int .i64 k ∧ AddAt w wr w.heap.size (w.heap.size + 1) w2.heap.size sb m [.int .i64 mi, v1, v2, v3, v4, v5, v6, v7, v8, v9, v10, v11, v12, v13, v14, v15, v16, .slice ga gs.length gc, .slice sa ss.length sc, .int .i64 b] day (bumps L ((day, 0, ByteArray.empty) :: (gs.take k).map (fun g => (day, 1, g))) b) zs) (fun i _ => gs.length - (intOf i).toNat)
    case atStart => exact ⟨0, by omega, rfl, A1b'.out⟩
    case round =>
      obtain ⟨k, hk0, rfl, hA⟩ := hrel
      by_cases hk : k < gs.length
      · obtain ⟨ga', gc', hform, hgf⟩ := (hg'.out.kept hst'.out hA.kept).form
        cases hform
        obtain ⟨bb, o, rfl, hcell⟩ := hgf k hk
        obtain ⟨z, hzk⟩ : ∃ z, z = gs.getD k ByteArray.empty := ⟨_, rfl⟩
        rw [← hzk] at hcell
        have hcl := addclos_any w2.heap.size w.heap.size (w.heap.size + 1) sb m 1 z day b _ wr hA.d hA.s (hA.e 19 _ rfl) hA.st.cell0 hA.st.2.2 (hbk'.out _ (by simp; omega)) ⟨hb1, hb2⟩
        have hA' := Lib.hid hA
        have hcl' := Lib.hid hcl
        have hzk' := Lib.hid hzk
        clear hA hcl hzk hgf
        go_wp2_with fail
        go_at_call 49
        refine hcl'.out.mono ?_
        rintro e w5 hce
        obtain ⟨rfl, A2⟩ := hA'.out.clos hce
        have A2' := Lib.hid A2
        clear A2 hce
        go_wp2_with fail
        refine ⟨⟨k + 1, by omega, by go_num, ?_⟩, by simp [intOf]; omega⟩
        rw [take_getD hk, List.map_append, ← List.cons_append]
        show AddAt _ _ _ _ _ _ _ _ _ (bumps L (_ ++ [(day, 1, gs.getD k ByteArray.empty)]) b) _
        rw [bumps_snoc, ← hzk'.out]
        exact A2'.out
      · obtain rfl : k = gs.length := by omega
        rw [List.take_length] at hA
        have r18 := hA.e 18 _ rfl
        have hA' := Lib.hid hA
        clear hA
        go_wp2_with fail
        obtain ⟨K1, hK1⟩ : ∃ K1, K1 = (day, (0 : Int), ByteArray.empty) :: gs.map (fun g => (day, (1 : Int), g)) := ⟨_, rfl⟩
        rw [← hK1] at hA'
        have hK1l : K1.length ≤ 21 := by rw [hK1]; simp; omega
        have hK1' := Lib.hid hK1
        clear hK1 r18
        go_loopw [47] (fun i wr => ∃ k : Nat, k ≤ ss.length ∧ i = .int .i64 k ∧ AddAt w wr w.heap.size (w.heap.size + 1) w2.heap.size sb m [.int .i64 mi, v1, v2, v3, v4, v5, v6, v7, v8, v9, v10, v11, v12, v13, v14, v15, v16, .slice ga gs.length gc, .slice sa ss.length sc, .int .i64 b] day (bumps L (K1 ++ (ss.take k).map (fun g => (day, 2, g))) b) zs) (fun i _ => ss.length - (intOf i).toNat)
        case atStart => exact ⟨0, by omega, rfl, by simpa using hA'.out⟩
        case round =>
          obtain ⟨k, hk0, rfl, hA⟩ := hrel
          by_cases hk : k < ss.length
          · obtain ⟨sa', sc', hform, hsf⟩ := (hs'.out.kept hst'.out hA.kept).form
            cases hform
            obtain ⟨bb, o, rfl, hcell⟩ := hsf k hk
            obtain ⟨z, hzk⟩ : ∃ z, z = ss.getD k ByteArray.empty := ⟨_, rfl⟩
            rw [← hzk] at hcell
            have hcl := addclos_any w2.heap.size w.heap.size (w.heap.size + 1) sb m 2 z day b _ wr hA.d hA.s (hA.e 19 _ rfl) hA.st.cell0 hA.st.2.2 (hbk'.out _ (by simp; omega)) ⟨hb1, hb2⟩
            have hA' := Lib.hid hA
            have hcl' := Lib.hid hcl
            have hzk' := Lib.hid hzk
            clear hA hcl hzk hsf
            go_wp2_with fail
            go_at_call 49
            refine hcl'.out.mono ?_
            rintro e w5 hce
            obtain ⟨rfl, A2⟩ := hA'.out.clos hce
            have A2' := Lib.hid A2
            clear A2 hce
            go_wp2_with fail
            refine ⟨⟨k + 1, by omega, by go_num, ?_⟩, by simp [intOf]; omega⟩
            rw [take_getD hk, List.map_append, ← List.append_assoc]
            show AddAt _ _ _ _ _ _ _ _ _ (bumps L (_ ++ [(day, 2, ss.getD k ByteArray.empty)]) b) _
            rw [bumps_snoc, ← hzk'.out]
            exact A2'.out
          · obtain rfl : k = ss.length := by omega
            rw [List.take_length] at hA
            have hrow : wr.rangeAt (w.heap.size + 1) 1 [v1, v2, v3, v4, v5, v6, v7, v8, v9, v10, v11, v12, v13, v14, v15, v16] := fun j v hj => by
              refine hA.e (1 + j) v ?_
              rcases Nat.lt_or_ge j 16 with h | h
              · rw [Nat.add_comm]
                exact (List.getElem?_append_left (l₂ := [.slice ga gs.length gc, .slice sa ss.length sc, .int .i64 b]) (by simpa using h)).trans hj
              · rw [List.getElem?_eq_none (by simpa using h)] at hj; cases hj
            obtain ⟨K2, hK2⟩ : ∃ K2, K2 = K1 ++ ss.map (fun g => (day, (2 : Int), g)) := ⟨_, rfl⟩
            rw [← hK2] at hA
            have hK2l : K2.length ≤ 71 := by rw [hK2]; simp; omega
            have hK2' := Lib.hid hK2
            have hA2' := Lib.hid hA
            clear hK2 hA
            go_wp2_with (refine wpList_load_mid rfl 24 _ rfl (w.heap.size + 1) 1 rfl _ _ hrow Tryz.underlying24 rfl rfl ?_)
            go_at_call 50
            refine (authortext_lit v1 v2 v3 v4 v5 v6 v7 v8 v9 v10 v11 v12 v13 v14 v15 v16 au hau'.out wr).mono ?_
            rintro e w6 ⟨rfl, hb6⟩
            have hA := hA2'.out.below hb6
            have hcl := addclos_any w2.heap.size w.heap.size (w.heap.size + 1) sb m 3 (auText au) day b _ w6 hA.d hA.s (hA.e 19 _ rfl) hA.st.cell0 hA.st.2.2 (hbk'.out _ (by omega)) ⟨hb1, hb2⟩
            have hA6' := Lib.hid hA
            have hcl' := Lib.hid hcl
            clear hA hcl hb6 hrow
            go_wp2_with fail
            go_at_call 49
            refine hcl'.out.mono ?_
            rintro e w7 hce
            obtain ⟨rfl, A2⟩ := hA6'.out.clos hce
            have A2' := Lib.hid A2
            clear A2 hce
            go_wp2_with fail
            obtain ⟨n, hn⟩ : ∃ n, n = Lib.bitLen b.toNat := ⟨_, rfl⟩
            have hn17 : n ≤ 17 := by rw [hn]; exact bitLen_le _ (by omega)
            obtain ⟨z, hzn⟩ : ∃ z, z = zs.getD n 0 := ⟨_, rfl⟩
            have hzl := A2'.out.st.2.1
            have hzb : 0 ≤ z ∧ z ≤ 900000 := by
              have hm : z ∈ zs := by rw [hzn, List.getD_eq_getElem?_getD, List.getElem?_eq_getElem (by omega), Option.getD_some]; exact List.getElem_mem _
              have := hz'.out z hm; omega
            have q0 := A2'.out.s
            have q1 := A2'.out.e 19 _ rfl
            have q2 : w7.cell? ⟨sb, 1 + n, none⟩ = some (.int .i64 z) := by
              rw [cell_of_row _ _ _ _ _ _ A2'.out.st.1, hzn, Nat.add_comm]
              simp [List.getD_eq_getElem?_getD, show n < zs.length by omega]
            have q3 : w7.frozen? ⟨sb, 1 + n, none⟩ = false := frozen_of_row _ _ _ _ _ A2'.out.st.1
            have hbl : ∀ W, Calls Tryz.prog 51 #[.int .u64 (IntKind.u64.wrap b)] W fun e w' => e = .returned (.int .i64 n) ∧ w' = W := fun W => by rw [hn, wrap_u64 b ⟨hb1, hb2⟩]; exact Tryz.bits_Len b W hb1 (by omega)
            have hbl' := Lib.hid hbl
            have hn' := Lib.hid hn
            have hzn' := Lib.hid hzn
            obtain ⟨hz1, hz2⟩ := hzb
            clear hbl hn hzn hzl
            have hx0 : (0 : Int) ≤ (n : Int) := by omega
            have hx1 : (n : Int) < 18 := by omega
            refine wp_region_still_tail 13 (by kernel_rfl) (by kernel_rfl) ?_
            simp only [List.take_succ_cons, List.take_zero, List.drop_succ_cons, List.drop_zero]
            repeat still_step
            still_call (hbl'.out _)
            repeat still_step
            refine wpStill_nil ?_
            have hA8 : AddAt w w7.drew _ _ _ _ _ _ _ _ _ := A2'.out.below ((Below.refl _ w7).drew)
            obtain ⟨w8, hw8⟩ : ∃ w8, w8 = w7.drew := ⟨_, rfl⟩
            rw [← hw8] at hA8
            have g2 : w8.cell? ⟨sb, 1 + n, none⟩ = some (.int .i64 z) := by rw [hw8]; exact q2
            have g3 : w8.frozen? ⟨sb, 1 + n, none⟩ = false := by rw [hw8]; exact q3
            change wpList _ _ _ _ _ w7.drew
            rw [← hw8]
            have hA8' := Lib.hid hA8
            clear q0 q1 q2 q3 hA8 hw8
            go_wp2_with fail
            go_ret
            have hs8 := hA8'.out.st
            refine ⟨ret_int her'.out, ⟨?_, ?_, ?_⟩, hA8'.out.kept.setCell _ _⟩
            · rw [addZ, if_pos her'.out.symm, heap_setCell_same _ _ _ _ _ _ hs8.1, incZ, ← hn'.out, ← hzn'.out]
              congr 2
              exact sizes_set _ _ _ _ (by have := hs8.2.1; omega)
            · rw [addZ, if_pos her'.out.symm, incZ, List.length_set]; exact hs8.2.1
            · rw [addL, if_pos her'.out.symm]
              have hkk : keysOf mi au gs ss = K2 ++ [(day, 3, auText au)] := by rw [hK2'.out, hK1'.out, hday'.out]; rfl
              rw [hkk, bumps_snoc]
              exact hs8.2.2.block (heap_setCell_other _ _ _ _ (by simp; exact fun e => hs8.lt.2.2 e.symm))
  · have her0 : (er != 0) = true := by simpa using he0
    go_enter Tryz.func26, Tryz.ntmps26
    go_wp2_with (refine wpList_load_row rfl 27 _ rfl (w.heap.size + 1) rfl _ _ _ _ (heap_alloc2_new _ _ _) Tryz.underlying27 rfl rfl ?_)
    go_at_call 31
    refine hck'.out.mono ?_
    rintro e w1 ⟨rfl, hb1⟩
    rw [← hW'.out] at hb1
    have hb1' := Lib.hid hb1
    clear hb1
    go_wp2_with fail
    go_ret
    have he0' : ¬ evErr mi gs ss b = 0 := by rw [← her'.out]; exact he0
    refine ⟨ret_int her'.out, ?_, Kept.ofBelow (hbW'.out.trans (hb1'.out.mono hbW'.out.size))⟩
    rw [addL, if_neg he0', addZ, if_neg he0']
    exact hstW'.out.below hb1'.out
end Go.Proofs.YtlemadbmlnjhpaaGreatDoor
