/- Stats.Text: the walk. -/
import Derived.Test.YtlemadbmlnjhpaaGreatDoorLH
namespace Go.Proofs.YtlemadbmlnjhpaaGreatDoor
open Go Go.RowKit Go.Proofs
set_option linter.unusedSimpArgs false
set_option linter.unusedVariables false

theorem SliceKey.others {w w' : World} {v : Value} {ks : List Key} {b : Nat} {c : Array Value} (h : SliceKey w v ks) (ho : Lib.OthersKept 5 (some b) w w') (hb : w.heap[b]? = some (.cells c 77 (0, 0))) : SliceKey w' v ks := by
  obtain ⟨A, cc, h1, h2, h3, h4⟩ := h
  have key : ∀ bb o, A = some ⟨bb, o, none⟩ → w'.heap[bb]? = w.heap[bb]? := fun bb o hA => by
    obtain ⟨cs, hc⟩ := h4 bb o hA
    rw [hc]
    refine ho bb _ hc (fun he => ?_) (fun c fz he => absurd (Obj.cells.inj he).2.1 (by decide))
    cases he
    rw [hb] at hc
    exact absurd (Obj.cells.inj (Option.some.inj hc)).2.1 (by decide)
  refine ⟨A, cc, h1, h2, fun k x hk => ?_, fun bb o hA => ?_⟩
  · obtain ⟨bb, o, e1, e2⟩ := h3 k x hk
    exact ⟨bb, o, e1, fun j u hj => (World.cell?_of_block (key bb o e1)).trans (e2 j u hj)⟩
  · obtain ⟨cs, hc⟩ := h4 bb o hA
    exact ⟨cs, (key bb o hA).trans hc⟩
theorem strCells_mk (l : List UInt8) : Lib.strCells ⟨l.toArray⟩ = Lib.byteCells l := by simp [Lib.strCells, Lib.byteCells]
theorem byteCells_app (l m : List UInt8) : Lib.byteCells (l ++ m) = Lib.byteCells l ++ Lib.byteCells m := by simp [Lib.byteCells]

/-- between two lines -/
structure TextAt (w wr : World) (sv : Value) (ks : List Key) (l : List UInt8) : Prop where
  bel : Below w.heap.size w wr
  key : SliceKey wr sv ks
  bd : Lib.IsBuilderF 77 5 w.heap.size w.heap.size (Lib.byteCells l) wr
theorem TextAt.below {w wr w' : World} {sv : Value} {ks : List Key} {l : List UInt8} (h : TextAt w wr sv ks l) (hb : Below wr.heap.size wr w') : TextAt w w' sv ks l :=
  ⟨h.bel.trans (hb.mono h.bel.size), h.key.below hb, builder_below h.bd hb⟩
theorem TextAt.line {w wJ w' : World} {sv : Value} {ks : List Key} {l m : List UInt8} (h : TextAt w wJ sv ks l) (hbd : Lib.BuilderAtF 77 5 w.heap.size w.heap.size (.pointer (some ⟨w.heap.size, 0, none⟩)) (Lib.byteCells l ++ Lib.strCells ⟨m.toArray⟩) w')
    (hb : Below w.heap.size wJ w') (ho : Lib.OthersKept 5 (some w.heap.size) wJ w') : TextAt w w' sv ks (l ++ m) := by
  obtain ⟨cs, hc⟩ := builder_block h.bd
  refine ⟨h.bel.trans hb, h.key.others ho hc, .inr ?_⟩
  rw [byteCells_app, ← strCells_mk m]; exact hbd

set_option maxRecDepth 100000 in
set_option maxHeartbeats 3200000 in
theorem text_any (sb m : Nat) (L : List (Key × Cnt)) (zs : List Int) (w : World) (h : StatsAt w sb m L zs) (hT : Tab w) (hl : L.length ≤ 100000) (hb : Bnd L) (hko : KeysOk L) (hz : SzN zs 1000000000) :
    Calls Tryz.prog 20 #[.pointer (some ⟨sb, 0, none⟩)] w fun e w' => e = .returned (bytesV (textK L zs)) ∧ Below w.heap.size w w' := by
  obtain ⟨w0, hw0⟩ : ∃ w0, w0 = w.alloc (.cells #[.pointer none, .slice none 0 0] 77) := ⟨_, rfl⟩
  have hb0 : Below w.heap.size w w0 := by rw [hw0]; exact (Below.refl _ _).alloc (Nat.le_refl _) _
  have hs0 : w0.heap.size = w.heap.size + 1 := by rw [hw0]; simp
  have hbd0 : Lib.IsBuilderF 77 5 w.heap.size w.heap.size [] w0 := Lib.IsBuilderF.of (.inl ⟨Nat.le_refl _, .slice none 0 0, by rw [hw0]; exact heap_alloc_new w _, World.ownsRow_nil _ _ _ _, by simp [Value.ownBlock]⟩)
  have hso := sorted_any sb m L zs w0 (h.below hb0) (by omega)
  obtain ⟨ks, hks⟩ : ∃ ks, ks = sortK (L.map Prod.fst) := ⟨_, rfl⟩
  rw [← hks] at hso
  have hkl : ks.length = L.length := by rw [hks, sortK_length, List.length_map]
  have hkok : ∀ x ∈ ks, KeyOk x := fun x hx => by
    rw [hks] at hx
    obtain ⟨q, hq, rfl⟩ := List.mem_map.1 ((sortK_perm _).mem_iff.1 hx)
    exact hko q hq
  have hso' := Lib.hid hso
  have hks' := Lib.hid hks
  have hw0' := Lib.hid hw0
  have hkok' := Lib.hid hkok
  have hT' := Lib.hid hT
  have h' := Lib.hid h
  have hbd0' := Lib.hid hbd0
  have hb0' := Lib.hid hb0
  have hbn := Lib.hid hb
  have hkl' := Lib.hid hkl
  have hz' := Lib.hid hz
  have hl1 : ks.length ≤ 100000 := by omega
  clear hso hks hw0 hkok hT h hbd0 hb0 hs0 hb hz hko hkl hl
  go_enter Tryz.func20, Tryz.ntmps20
  go_wp2_with (go_at_call 36; fail)
  rw [← hw0'.out]
  refine hso'.out.mono ?_
  rintro e w1 ⟨sv, rfl, hsk, hb1⟩
  have hsk' := Lib.hid hsk
  obtain ⟨A, c, rfl, hkm, _, _⟩ := hsk
  have hA0 : TextAt w w1 (.slice A ks.length c) ks [] := ⟨hb0'.out.trans (hb1.mono hb0'.out.size), hsk'.out, builder_below hbd0'.out hb1⟩
  have hA0' := Lib.hid hA0
  clear hb1 hA0
  go_wp2_with fail
  go_loopw [15] (fun i wr => ∃ k : Nat, k ≤ ks.length ∧ i = .int .i64 k ∧ TextAt w wr (.slice A ks.length c) ks (linesK (ks.take k) L)) (fun i _ => ks.length - (intOf i).toNat)
  case atStart => exact ⟨0, by omega, rfl, hA0'.out⟩
  case round =>
    obtain ⟨k, hk0, rfl, hA⟩ := hrel
    have hA' := Lib.hid hA
    clear hA
    by_cases hk : k < ks.length
    · obtain ⟨x, hx⟩ : ∃ x, ks[k]? = some x := ⟨_, List.getElem?_eq_getElem hk⟩
      obtain ⟨A2, c2', hform, _, hcells, _⟩ := hA'.out.key
      cases hform
      obtain ⟨kbb, ko, rfl, hrg⟩ := hcells k x hx
      have hko := hkok'.out x (List.mem_of_getElem? hx)
      have hnext : Hid (linesK (ks.take (k + 1)) L = linesK (ks.take k) L ++ lineK x (getL x L)) := by show _ = _; rw [take_some hx, linesK_snoc]
      have hlen : (linesK (ks.take k) L).length ≤ 1200 * k := by
        have := linesK_len hbn.out _ (ks.take k) rfl (fun y hy => hkok'.out y (List.mem_of_mem_take hy))
        rw [List.length_take, Nat.min_eq_left hk0] at this; exact this
      obtain ⟨g1, g2, g3, g4⟩ := getL_bound (k := x) hbn.out
      have hjl := join_lineK hko ⟨g1, g2⟩ ⟨g3, g4⟩
      obtain ⟨cc, hcc⟩ : ∃ cc, cc = getL x L := ⟨_, rfl⟩
      rw [← hcc] at hnext g1 g2 g3 g4 hjl
      obtain ⟨c1, c2⟩ := cc
      obtain ⟨k1, k2, k3⟩ := x
      obtain ⟨⟨q1, q2⟩, ⟨q3, q4⟩, q5⟩ := hko
      obtain ⟨l, hl0⟩ : ∃ l, l = linesK (ks.take k) L := ⟨_, rfl⟩
      rw [← hl0] at hA' hnext hlen
      have hrg2 : wr.rangeAt kbb (ko + k * 3) [.int .i64 k1, .int .i64 k2, .string k3] := hrg
      have hrg' := Lib.hid hrg2
      have hcc' := Lib.hid hcc.symm
      have hjl' := Lib.hid hjl
      have hlen' := Lib.hid hlen
      clear hrg hrg2 hcells hx hl0 hcc hjl hlen
      -- the world with the key's variable
      obtain ⟨W, hW⟩ : ∃ W, W = wr.alloc (.cells #[.int .i64 k1, .int .i64 k2, .string k3] 64) := ⟨_, rfl⟩
      have hAW : TextAt w W (.slice (some ⟨kbb, ko, none⟩) ks.length c) ks l := hA'.out.below (by rw [hW]; exact (Below.refl _ _).alloc (Nat.le_refl _) _)
      have hkH : W.heap[wr.heap.size]? = some (.cells #[.int .i64 k1, .int .i64 k2, .string k3] 64 (0, 0)) := by rw [hW]; exact heap_alloc_new wr _
      have hAW' := Lib.hid hAW
      have hkH' := Lib.hid hkH
      have hW' := Lib.hid hW
      clear hAW hkH hW
      by_cases h0 : k2 = 0
      · subst h0
        have hnm : keyName (k1, 0, k3) = Lib.itoa k1 := rfl
        have hnm' := Lib.hid hnm
        clear hnm
        go_wp2_with (first | (refine wpList_load_mid rfl 64 _ rfl kbb (ko + k * 3) rfl _ _ hrg'.out Tryz.underlying64 rfl rfl ?_) | (go_at_call 38; fail))
        rw [← hW'.out]
        refine (itoa_any k1 W (hT'.out.below hAW'.out.bel) (by omega) (by omega)).mono ?_
        rintro e wA ⟨rfl, hbA⟩
        have hAA' := Lib.hid (hAW'.out.below hbA)
        have hkA' := Lib.hid ((hbA.block _ (Array.getElem?_eq_some_iff.1 hkH'.out).1).trans hkH'.out)
        clear hbA
        go_wp2_with fail
        have hreg10 := Lib.hid (text_region10 sb m wr.heap.size L zs k1 0 k3 c1 c2 wA)
        have hstA := h'.out.below hAA'.out.bel
        have hkbA : wr.heap.size < wA.heap.size := (Array.getElem?_eq_some_iff.1 hkA'.out).1
        have hstA' := Lib.hid hstA
        have hkbA' := Lib.hid hkbA
        clear hstA hkbA
        refine wp_region_noPanic ?_
        refine hreg10.out _ _ _ _ _ _ _ _ _ _ _ _ _ _ _ _ _ _ _ _ _ _ _ _ _ _ _ _ _ _ _ _ _ _ _ _ _ _ _ _ _ _ _ _ _ _ _ _ _ _ _ _ _ _ _ _ _ _ _ _ _ _ _ _ _ _ _ _ (fun _ _ _ _ h => h) hstA'.out (range_of_heap hkA'.out) hkbA'.out hcc'.out ?_
        intro wC r27 r28 r29 r30 r31 r32 hbC hcC
        refine NoPanic.normal ?_
        have hAC' := Lib.hid (hAA'.out.below hbC)
        have hkC' := Lib.hid ((hbC.block _ hkbA'.out).trans hkA'.out)
        have hcC' := Lib.hid hcC
        have hreg11 := Lib.hid (text_region11 w.heap.size wr.heap.size wA.heap.size w.heap.size k1 0 k3 ⟨(Lib.itoa k1).toArray⟩ c1 c2 (Lib.byteCells l) wC)
        clear hreg10 hbC hcC
        go_wp2_with fail
        refine wp_region_noPanic ?_
        refine hreg11.out _ _ _ _ _ _ _ _ _ _ _ _ _ _ _ _ _ _ _ _ _ _ _ _ _ _ _ _ _ _ _ _ _ _ _ _ _ _ _ _ _ _ _ _ _ _ _ _ _ _ _ _ _ _ _ _ _ _ _ _ _ _ _ _ _ _ (fun _ _ _ _ h => h) hkC'.out hcC'.out (hT'.out.below hAC'.out.bel) (by omega) ⟨g1, g2⟩ ⟨g3, g4⟩ hAC'.out.bd (by have := hAC'.out.bel.size; omega) (Nat.le_trans (by have := hjl'.out; rw [hnm'.out] at this; exact this) (by decide : 1100 ≤ 10000)) (by rw [Lib.byteCells_length]; have := hlen'.out; omega) ?_
        intro wJ w' r33 r34 r35 r36 r37 r38 r39 r40 r41 r42 r43 r44 r45 r46 r47 hbJ hbdw hbe hot
        refine NoPanic.normal ?_
        have hAF' := Lib.hid ((hAC'.out.below hbJ).line hbdw hbe hot)
        clear hreg11 hbJ hbdw hbe hot
        go_wp2_with fail
        refine ⟨⟨k + 1, by omega, by go_num, ?_⟩, by simp [intOf]; omega⟩
        rw [hnext.out]
        have hF := hAF'.out
        unfold lineK
        rw [hnm'.out]
        simpa using hF
      · have hnm : keyName (k1, k2, k3) = k3.data.toList := if_neg h0
        have hnm' := Lib.hid hnm
        have hq0 : (k2 == 0) = false := beq_eq_false_iff_ne.2 h0
        clear hnm
        go_wp2_with (first | (refine wpList_load_mid rfl 64 _ rfl kbb (ko + k * 3) rfl _ _ hrg'.out Tryz.underlying64 rfl rfl ?_))
        rw [← hW'.out]
        obtain ⟨wA, hwA⟩ : ∃ wA, wA = W := ⟨_, rfl⟩
        rw [← hwA]
        have hAA' := Lib.hid (hwA ▸ hAW'.out)
        have hkA' : Hid (wA.heap[wr.heap.size]? = some (.cells #[.int .i64 k1, .int .i64 k2, .string k3] 64 (0, 0))) := by show _ = _; rw [hwA]; exact hkH'.out
        clear hwA
        have hreg10 := Lib.hid (text_region10 sb m wr.heap.size L zs k1 k2 k3 c1 c2 wA)
        have hstA := h'.out.below hAA'.out.bel
        have hkbA : wr.heap.size < wA.heap.size := (Array.getElem?_eq_some_iff.1 hkA'.out).1
        have hstA' := Lib.hid hstA
        have hkbA' := Lib.hid hkbA
        clear hstA hkbA
        refine wp_region_noPanic ?_
        refine hreg10.out _ _ _ _ _ _ _ _ _ _ _ _ _ _ _ _ _ _ _ _ _ _ _ _ _ _ _ _ _ _ _ _ _ _ _ _ _ _ _ _ _ _ _ _ _ _ _ _ _ _ _ _ _ _ _ _ _ _ _ _ _ _ _ _ _ _ _ _ (fun _ _ _ _ h => h) hstA'.out (range_of_heap hkA'.out) hkbA'.out hcc'.out ?_
        intro wC r27 r28 r29 r30 r31 r32 hbC hcC
        refine NoPanic.normal ?_
        have hAC' := Lib.hid (hAA'.out.below hbC)
        have hkC' := Lib.hid ((hbC.block _ hkbA'.out).trans hkA'.out)
        have hcC' := Lib.hid hcC
        have hreg11 := Lib.hid (text_region11 w.heap.size wr.heap.size wA.heap.size w.heap.size k1 k2 k3 k3 c1 c2 (Lib.byteCells l) wC)
        clear hreg10 hbC hcC
        go_wp2_with fail
        refine wp_region_noPanic ?_
        refine hreg11.out _ _ _ _ _ _ _ _ _ _ _ _ _ _ _ _ _ _ _ _ _ _ _ _ _ _ _ _ _ _ _ _ _ _ _ _ _ _ _ _ _ _ _ _ _ _ _ _ _ _ _ _ _ _ _ _ _ _ _ _ _ _ _ _ _ _ (fun _ _ _ _ h => h) hkC'.out hcC'.out (hT'.out.below hAC'.out.bel) (by omega) ⟨g1, g2⟩ ⟨g3, g4⟩ hAC'.out.bd (by have := hAC'.out.bel.size; omega) (Nat.le_trans (by have := hjl'.out; rw [hnm'.out] at this; exact this) (by decide : 1100 ≤ 10000)) (by rw [Lib.byteCells_length]; have := hlen'.out; omega) ?_
        intro wJ w' r33 r34 r35 r36 r37 r38 r39 r40 r41 r42 r43 r44 r45 r46 r47 hbJ hbdw hbe hot
        refine NoPanic.normal ?_
        have hAF' := Lib.hid ((hAC'.out.below hbJ).line hbdw hbe hot)
        clear hreg11 hbJ hbdw hbe hot
        go_wp2_with fail
        refine ⟨⟨k + 1, by omega, by go_num, ?_⟩, by simp [intOf]; omega⟩
        rw [hnext.out]
        have hF := hAF'.out
        unfold lineK
        rw [hnm'.out]
        exact hF
    · obtain rfl : k = ks.length := by omega
      rw [List.take_length] at hA'
      obtain ⟨cs, hcs⟩ : ∃ cs, cs = zs.map (Value.int .i64) := ⟨_, rfl⟩
      have hstR := h'.out.below hA'.out.bel
      have hrg : wr.rangeAt sb 1 cs := by rw [hcs]; exact hstR.range
      have hcl : (Tryz.prog.info? 41).map (·.size) = some cs.length := by rw [hcs, List.length_map, hstR.2.1]; exact Tryz.sizeArr
      have hix := Tryz.index_arr zs hstR.2.1
      rw [← hcs] at hix
      have hzl : zs.length = 18 := hstR.2.1
      have hrg' := Lib.hid hrg
      have hcl' := Lib.hid hcl
      have hix' := Lib.hid hix
      have hzl' := Lib.hid hzl
      have hlenK : (linesK ks L).length ≤ 1200 * ks.length := linesK_len hbn.out _ ks rfl hkok'.out
      obtain ⟨lk, hlk⟩ : ∃ lk, lk = linesK ks L := ⟨_, rfl⟩
      rw [← hlk] at hA' hlenK
      have hlk' := Lib.hid hlk
      have hA0 : TextAt w wr (.slice A ks.length c) ks (lk ++ linesZ zs 0) := by have := hA'.out; simpa [linesZ] using this
      have hAz' := Lib.hid hA0
      clear hrg hcl hix hzl hstR hcs hlk hA0
      go_wp2_with (refine wpList_load_mid rfl 41 _ rfl sb 1 rfl cs _ hrg'.out Tryz.underlying41 rfl hcl'.out ?_)
      go_loopw [53] (fun i wq => ∃ n : Nat, n ≤ 18 ∧ i = .int .i64 n ∧ TextAt w wq (.slice A ks.length c) ks (lk ++ linesZ zs n)) (fun i _ => 18 - (intOf i).toNat)
      case atStart => exact ⟨0, by omega, rfl, hAz'.out⟩
      case round =>
        obtain ⟨n, hn0, rfl, hB⟩ := hrel
        have hB' := Lib.hid hB
        clear hB
        by_cases hn : n < 18
        · have hi0 := hix'.out n hn
          obtain ⟨z, hzz⟩ : ∃ z, z = zs.getD n 0 := ⟨_, rfl⟩
          rw [← hzz] at hi0
          have hzb : 0 ≤ z ∧ z ≤ 1000000000 := by
            have hm : z ∈ zs := by rw [hzz, List.getD_eq_getElem?_getD, List.getElem?_eq_getElem (by have := hzl'.out; omega), Option.getD_some]; exact List.getElem_mem _
            exact hz'.out z hm
          have hnext : Hid (linesZ zs (n + 1) = linesZ zs n ++ (if 0 < z then lineZ n z else [])) := by show _ = _; rw [linesZ_succ, lineZ0, hzz]
          have hzlen := linesZ_len hz'.out n (by omega)
          obtain ⟨lz, hlz⟩ : ∃ lz, lz = linesZ zs n := ⟨_, rfl⟩
          rw [← hlz] at hB' hnext hzlen
          obtain ⟨hzb1, hzb2⟩ := hzb
          clear hzz hlz
          by_cases hpos : 0 < z
          · rw [if_pos hpos] at hnext
            have hjl := join_lineZ (i := n) (n := z) (by omega) ⟨by omega, by omega⟩
            go_wp2_with (go_at_call 38; fail)
            refine (itoa_any n wr (hT'.out.below hB'.out.bel) (by omega) (by omega)).mono ?_
            rintro e w2 ⟨rfl, hb2⟩
            have hB2 := Lib.hid (hB'.out.below hb2)
            clear hb2
            go_wp2_with (go_at_call 38; fail)
            refine (itoa_any z w2 (hT'.out.below hB2.out.bel) (by omega) (by omega)).mono ?_
            rintro e w3 ⟨rfl, hb3⟩
            have hB3 := Lib.hid (hB2.out.below hb3)
            clear hb3
            obtain ⟨w4, hw4⟩ : ∃ w4, w4 = w3.alloc (.cells #[.string { data := #[115, 105, 122, 101] }, bytesV (Lib.itoa n), bytesV (Lib.itoa z)] 9) := ⟨_, rfl⟩
            have hB4 := Lib.hid (hB3.out.below (show Below w3.heap.size w3 w4 by rw [hw4]; exact (Below.refl _ _).alloc (Nat.le_refl _) _))
            have e1 : (Lib.join (([⟨#[115, 105, 122, 101]⟩, ⟨(Lib.itoa n).toArray⟩, ⟨(Lib.itoa z).toArray⟩] : List ByteArray).map (·.data.toList)) (⟨#[32]⟩ : ByteArray).data.toList) = Lib.join [wSize, Lib.itoa n, Lib.itoa z] [32] := by simp [wSize]
            have hj := Tryz.strings_Join w3.heap.size 0 3 [⟨#[115, 105, 122, 101]⟩, ⟨(Lib.itoa n).toArray⟩, ⟨(Lib.itoa z).toArray⟩] ⟨#[32]⟩ w4 (fun j x hx => by
              rw [hw4, cell_of_row _ _ _ _ _ _ (heap_alloc_new w3 _), Nat.zero_add]
              rcases j with _ | _ | _ | j
              · simp at hx; subst hx; rfl
              · simp at hx; subst hx; rfl
              · simp at hx; subst hx; rfl
              · simp at hx) (by rw [hw4]; simp) (by simp) (by simp) (by rw [e1]; omega)
            rw [e1] at hj
            obtain ⟨J, hJ⟩ : ∃ J, J = Lib.join [wSize, Lib.itoa n, Lib.itoa z] [32] := ⟨_, rfl⟩
            rw [← hJ] at hj hjl
            have hnext2 : Hid (linesZ zs (n + 1) = lz ++ (J ++ [10])) := by show _ = _; rw [hnext.out, lineZ, hJ]
            have hj' := Lib.hid hj
            have hw4' := Lib.hid hw4
            have hJ' := Lib.hid hJ
            clear hj e1 hw4 hJ hpos
            go_wp2_with (go_at_call 40; fail)
            rw [← hw4'.out]
            refine hj'.out.mono ?_
            rintro e w5 ⟨rfl, hb5⟩
            have hB5 := Lib.hid (hB4.out.below hb5)
            have hadd := add_nl J (by omega) w5
            have hln : (Lib.byteCells (lk ++ lz)).length + (⟨(J ++ [10]).toArray⟩ : ByteArray).size ≤ 140737488355328 := by
              rw [bsize, Lib.byteCells_length, List.length_append, List.length_append, List.length_singleton]; omega
            have hws := writeString_any w.heap.size w.heap.size (Lib.byteCells (lk ++ lz)) ⟨(J ++ [10]).toArray⟩ w5 hB5.out.bd hln hB5.out.bel.size
            have hws' := Lib.hid hws
            clear hb5 hln hws
            go_wp2_with (go_at_call 39; fail)
            refine hws'.out.mono ?_
            rintro e w6 ⟨rfl, hbd6, hbe6, hot6⟩
            have hB6 := Lib.hid (hB5.out.line hbd6 hbe6 hot6)
            clear hbd6 hbe6 hot6 hadd
            go_wp2_with fail
            refine ⟨⟨n + 1, by omega, by go_num, ?_⟩, by simp [intOf]; omega⟩
            rw [hnext2.out, ← List.append_assoc]; exact hB6.out
          · rw [if_neg hpos, List.append_nil] at hnext
            go_wp2_with fail
            exact ⟨⟨n + 1, by omega, by go_num, by rw [hnext.out]; exact hB'.out⟩, by simp [intOf]; omega⟩
        · obtain rfl : n = 18 := by omega
          have hstr := Any.Builder_String_any_k { Tryz.lays156 with } Tryz.Builder_Extra_156 w.heap.size w.heap.size (lk ++ linesZ zs 18) wr hB'.out.bd hB'.out.bel.size
          have hstr2 : Calls Tryz.prog 42 #[.pointer (some ⟨w.heap.size, 0, none⟩)] wr fun e w' => e = .returned (.string ⟨(lk ++ linesZ zs 18).toArray⟩) ∧ (Lib.IsBuilderF 77 5 w.heap.size w.heap.size (Lib.byteCells (lk ++ linesZ zs 18)) w' ∧ Below w.heap.size wr w' ∧ Lib.OthersKept 5 (some w.heap.size) wr w') := hstr
          have hstr' := Lib.hid hstr2
          clear hstr hstr2
          go_wp2_with (go_at_call 42; fail)
          refine hstr'.out.mono ?_
          rintro e w6 ⟨rfl, _, hbe6, _⟩
          have hbf := Lib.hid (hB'.out.bel.trans hbe6)
          clear hbe6
          go_wp2_with fail
          go_ret
          refine ⟨?_, hbf.out⟩
          rw [textK, ← hks'.out, ← hlk'.out]
          rfl
end Go.Proofs.YtlemadbmlnjhpaaGreatDoor
