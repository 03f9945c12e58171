/- Events in memory; the model's day and has. -/
import Derived.Test.YtlemadbmlnjhpaaGreatDoorKD
import Derived.Deep.MidRow
namespace Go.Proofs.YtlemadbmlnjhpaaGreatDoor
open Go Go.RowKit Go.Proofs
set_option linter.unusedSimpArgs false
set_option linter.unusedVariables false

structure Ev where
  mi : Int
  au : List UInt8
  gs : List ByteArray
  ss : List ByteArray
  b : Int
def I64 (x : Int) : Prop := (Lit.int .i64 x).wf = true
def Ev.err (e : Ev) : Int := evErr e.mi e.gs e.ss e.b
def EvAt (w : World) (e : Ev) (cs : List Value) : Prop :=
  ∃ v1 v2 v3 v4 v5 v6 v7 v8 v9 v10 v11 v12 v13 v14 v15 v16 g sv, cs = [.int .i64 e.mi, v1, v2, v3, v4, v5, v6, v7, v8, v9, v10, v11, v12, v13, v14, v15, v16, g, sv, .int .i64 e.b] ∧
    [v1, v2, v3, v4, v5, v6, v7, v8, v9, v10, v11, v12, v13, v14, v15, v16] = byteVals e.au ∧ SliceStr w g e.gs ∧ SliceStr w sv e.ss ∧ I64 e.mi ∧ I64 e.b
theorem EvAt.below {w w' : World} {e : Ev} {cs : List Value} (h : EvAt w e cs) (hb : Below w.heap.size w w') : EvAt w' e cs := by
  obtain ⟨v1, v2, v3, v4, v5, v6, v7, v8, v9, v10, v11, v12, v13, v14, v15, v16, g, sv, h1, h2, h3, h4, h5⟩ := h
  exact ⟨v1, v2, v3, v4, v5, v6, v7, v8, v9, v10, v11, v12, v13, v14, v15, v16, g, sv, h1, h2, h3.below hb, h4.below hb, h5⟩
theorem EvAt.kept {w w' : World} {e : Ev} {cs : List Value} {sb m : Nat} {L : List (Key × Cnt)} {ns : List Int} (h : EvAt w e cs) (hs : StatsAt w sb m L ns) (hk : Kept w.heap.size sb m w w') : EvAt w' e cs := by
  obtain ⟨v1, v2, v3, v4, v5, v6, v7, v8, v9, v10, v11, v12, v13, v14, v15, v16, g, sv, h1, h2, h3, h4, h5⟩ := h
  exact ⟨v1, v2, v3, v4, v5, v6, v7, v8, v9, v10, v11, v12, v13, v14, v15, v16, g, sv, h1, h2, h3.kept hs hk, h4.kept hs hk, h5⟩
theorem EvAt.len {w : World} {e : Ev} {cs : List Value} (h : EvAt w e cs) : cs.length = 20 := by
  obtain ⟨v1, v2, v3, v4, v5, v6, v7, v8, v9, v10, v11, v12, v13, v14, v15, v16, g, sv, h1, _⟩ := h
  rw [h1]; rfl

/-- a slice of events in memory -/
def SliceEv (w : World) (v : Value) (es : List Ev) : Prop :=
  (∃ A c, v = .slice A 0 c ∧ es = []) ∨ ∃ bb o c, v = .slice (some ⟨bb, o, none⟩) es.length c ∧ (c ≤ 9223372036854775807 ∧ es.length ≤ 9223372036854775807) ∧ bb < w.heap.size ∧
    ∀ k e, es[k]? = some e → ∃ cs, w.rangeAt bb (o + k * 20) cs ∧ EvAt w e cs
theorem SliceEv.below {w w' : World} {v : Value} {es : List Ev} (h : SliceEv w v es) (hb : Below w.heap.size w w') : SliceEv w' v es := by
  rcases h with h | ⟨bb, o, c, rfl, g2, g3, g4⟩
  · exact Or.inl h
  · refine Or.inr ⟨bb, o, c, rfl, g2, Nat.lt_of_lt_of_le g3 hb.size, fun k e hk => ?_⟩
    obtain ⟨cs, h1, h2⟩ := g4 k e hk
    exact ⟨cs, fun j v hj => (hb.cell (p := ⟨bb, _, none⟩) g3).trans (h1 j v hj), h2.below hb⟩
theorem SliceEv.kept {w w' : World} {v : Value} {es : List Ev} {sb m : Nat} {L : List (Key × Cnt)} {ns : List Int} (h : SliceEv w v es) (hs : StatsAt w sb m L ns) (hk : Kept w.heap.size sb m w w') : SliceEv w' v es := by
  rcases h with h | ⟨bb, o, c, rfl, g2, g3, g4⟩
  · exact Or.inl h
  · refine Or.inr ⟨bb, o, c, rfl, g2, Nat.lt_of_lt_of_le g3 hk.size, fun k e hke => ?_⟩
    obtain ⟨cs, h1, h2⟩ := g4 k e hke
    have h2k := h2.kept hs hk
    obtain ⟨v1, v2, v3, v4, v5, v6, v7, v8, v9, v10, v11, v12, v13, v14, v15, v16, g, sv, e1, _, e3, _⟩ := h2
    obtain ⟨A, c', hgf, _⟩ := e3.form
    have hc := h1 17 g (by rw [e1]; rfl)
    have n1 : bb ≠ m := hs.2.2.notCell hc
    have n2 : bb ≠ sb := fun e => by
      subst e
      rw [cell_of_row _ _ _ _ _ _ hs.1, hgf] at hc
      rcases hq : (o + k * 20 + 17) with _ | q
      · omega
      · rw [hq] at hc
        simp at hc
    refine ⟨cs, fun j v hj => ?_, h2k⟩
    rw [World.cell?_of_block (hk.block bb g3 n2 n1)]; exact h1 j v hj
theorem SliceEv.form {w : World} {v : Value} {es : List Ev} (h : SliceEv w v es) :
    ∃ A c, v = .slice A es.length c ∧ es.length ≤ 9223372036854775807 ∧ ∀ k e, es[k]? = some e → ∃ bb o cs, A = some ⟨bb, o, none⟩ ∧ w.rangeAt bb (o + k * 20) cs ∧ EvAt w e cs := by
  rcases h with ⟨A, c, rfl, rfl⟩ | ⟨bb, o, c, rfl, g2, g3, g4⟩
  · exact ⟨_, _, rfl, by simp, fun k e hk => by simp at hk⟩
  · exact ⟨_, _, rfl, g2.2, fun k e hk => by obtain ⟨cs, h1, h2⟩ := g4 k e hk; exact ⟨bb, o, cs, rfl, h1, h2⟩⟩

theorem mday_lit (mi b : Int) (v1 v2 v3 v4 v5 v6 v7 v8 v9 v10 v11 v12 v13 v14 v15 v16 g sv : Value) (w : World) (h0 : 0 ≤ mi) (h1 : mi ≤ 105190559) :
    Calls Tryz.prog 34 #[.agg #[.int .i64 mi, v1, v2, v3, v4, v5, v6, v7, v8, v9, v10, v11, v12, v13, v14, v15, v16, g, sv, .int .i64 b]] w fun e w' => e = .returned (.int .i64 (mi / 1440)) ∧ Below w.heap.size w w' := by
  go_enter Tryz.func34, Tryz.ntmps34
  go_wp2_with fail
  go_ret
  exact ⟨rfl, (Below.refl _ _).alloc (Nat.le_refl _) _⟩

/-- the model's names of a kind -/
def Ev.names (e : Ev) (kind : Int) : List ByteArray := if kind = 2 then e.ss else if kind = 3 then [auText e.au] else e.gs
def hasL (l : List ByteArray) (name : ByteArray) : Bool := l.any fun x => x.toList == name.toList
def Ev.has (e : Ev) (kind : Int) (name : ByteArray) : Bool := hasL (e.names kind) name && (decide (1 ≤ kind) && decide (kind ≤ 3))
theorem hasL_upto {l : List ByteArray} {name : ByteArray} (h : ∀ j, j < l.length → l.getD j ByteArray.empty ≠ name) : hasL l name = false := by
  rw [hasL, List.any_eq_false]
  intro x hx
  obtain ⟨j, hj, rfl⟩ := List.getElem_of_mem hx
  have := h j hj
  rw [List.getD_eq_getElem?_getD, List.getElem?_eq_getElem hj, Option.getD_some] at this
  intro e
  exact this (bytes_beq_true (by simpa using e))
theorem hasL_at {l : List ByteArray} {name : ByteArray} {k : Nat} (hk : k < l.length) (h : l.getD k ByteArray.empty = name) : hasL l name = true := by
  rw [hasL, List.any_eq_true]
  rw [List.getD_eq_getElem?_getD, List.getElem?_eq_getElem hk, Option.getD_some] at h
  exact ⟨_, List.getElem_mem hk, by rw [h]; simp⟩

theorem au_row {w : World} {bl : Nat} {T : TypeId} {x0 v1 v2 v3 v4 v5 v6 v7 v8 v9 v10 v11 v12 v13 v14 v15 v16 x1 x2 x3 : Value} (h : w.heap[bl]? = some (.cells #[x0, v1, v2, v3, v4, v5, v6, v7, v8, v9, v10, v11, v12, v13, v14, v15, v16, x1, x2, x3] T (0, 0))) :
    w.rangeAt bl 1 [v1, v2, v3, v4, v5, v6, v7, v8, v9, v10, v11, v12, v13, v14, v15, v16] := fun j v hj => by
  rw [cell_of_row _ _ _ _ _ _ h]
  show ([x0, v1, v2, v3, v4, v5, v6, v7, v8, v9, v10, v11, v12, v13, v14, v15, v16, x1, x2, x3] : List Value).toArray[1 + j]? = _
  rw [List.getElem?_toArray, Nat.add_comm, List.getElem?_cons_succ]
  rcases Nat.lt_or_ge j 16 with h | h
  · exact (List.getElem?_append_left (l₁ := [v1, v2, v3, v4, v5, v6, v7, v8, v9, v10, v11, v12, v13, v14, v15, v16]) (l₂ := [x1, x2, x3]) (by simpa using h)).trans hj
  · rw [List.getElem?_eq_none (by simpa using h)] at hj; cases hj
theorem SliceStr.len_le {w : World} {v : Value} {zs : List ByteArray} (h : SliceStr w v zs) : zs.length ≤ 9223372036854775807 := by
  rcases h with ⟨A, c, rfl, rfl⟩ | ⟨bb, o, c, rfl, g1, g2, g3, g4, g5⟩
  · simp
  · exact g2.2
theorem auText_le {au : List UInt8} (h : au.length = 16) : (auText au).size ≤ 9223372036854775807 := by
  rw [auText, mkS_size, hexL_length, h]; decide
set_option maxRecDepth 100000 in
set_option maxHeartbeats 3200000 in
theorem has_lit (ev : Ev) (v1 v2 v3 v4 v5 v6 v7 v8 v9 v10 v11 v12 v13 v14 v15 v16 g sv : Value) (hau : [v1, v2, v3, v4, v5, v6, v7, v8, v9, v10, v11, v12, v13, v14, v15, v16] = byteVals ev.au)
    (kind : Int) (name : ByteArray) (w : World) (hg : SliceStr w g ev.gs) (hs : SliceStr w sv ev.ss) :
    Calls Tryz.prog 35 #[.agg #[.int .i64 ev.mi, v1, v2, v3, v4, v5, v6, v7, v8, v9, v10, v11, v12, v13, v14, v15, v16, g, sv, .int .i64 ev.b], .int .i64 kind, .string name] w
      fun e w' => e = .returned (.bool (ev.has kind name)) ∧ Below w.heap.size w w' := by
  obtain ⟨mi, hmi⟩ : ∃ x, x = ev.mi := ⟨_, rfl⟩
  obtain ⟨b, hb⟩ : ∃ x, x = ev.b := ⟨_, rfl⟩
  rw [← hmi, ← hb]
  have hb0 := Lib.hid ((Below.refl w.heap.size w).alloc (Nat.le_refl _) (.cells #[.int .i64 mi, v1, v2, v3, v4, v5, v6, v7, v8, v9, v10, v11, v12, v13, v14, v15, v16, g, sv, .int .i64 b] 27))
  have hg' := Lib.hid (hg.below hb0.out)
  have hs' := Lib.hid (hs.below hb0.out)
  have hau' := Lib.hid hau
  clear hg hs hau hmi hb
  obtain ⟨ga, gc, rfl, hgf⟩ := hg'.out.form
  obtain ⟨sa, sc, rfl, hsf⟩ := hs'.out.form
  clear hgf hsf
  have hrow := au_row (heap_alloc_new w (.cells #[.int .i64 mi, v1, v2, v3, v4, v5, v6, v7, v8, v9, v10, v11, v12, v13, v14, v15, v16, .slice ga ev.gs.length gc, .slice sa ev.ss.length sc, .int .i64 b] 27))
  have hgl := hg'.out.len_le
  have hsl := hs'.out.len_le
  by_cases hk2 : kind = 2
  · subst hk2
    clear hrow
    have hn : Hid (ev.names 2 = ev.ss) := rfl
    go_enter Tryz.func35, Tryz.ntmps35
    go_wp2_with fail
    obtain ⟨W9, hW9⟩ : ∃ W9, W9 = w.alloc (.cells #[.int .i64 mi, v1, v2, v3, v4, v5, v6, v7, v8, v9, v10, v11, v12, v13, v14, v15, v16, .slice ga ev.gs.length gc, .slice sa ev.ss.length sc, .int .i64 b] 27) := ⟨_, rfl⟩
    rw [← hW9]
    rw [← hW9] at hs' hb0
    have hsl' := hs'
    have hbl' := hb0
    clear hW9 hg'
    go_loop [8] (fun i => ∃ k : Nat, Upto (ev.ss).length k (fun j => (ev.ss).getD j ByteArray.empty ≠ name) ∧ i = .int .i64 k) (fun i => (ev.ss).length - (intOf i).toNat)
    case atStart => exact ⟨0, Upto.zero _ _, rfl⟩
    case round =>
      obtain ⟨k, hup, rfl⟩ := hrel
      have hup' := Lib.hid hup
      clear hup
      by_cases hk : k < (ev.ss).length
      · obtain ⟨ga', gc', hform, hgf⟩ := hsl'.out.form
        cases hform
        obtain ⟨bb, o, rfl, hcell⟩ := hgf k hk
        obtain ⟨z, hzk⟩ : ∃ z, z = (ev.ss).getD k ByteArray.empty := ⟨_, rfl⟩
        rw [← hzk] at hcell
        have hzk' := Lib.hid hzk
        clear hzk hgf
        go_wp2_with fail
        · have hyz : z = name := bytes_beq_true (by assumption)
          go_ret
          refine ⟨ret_bool ?_, hbl'.out⟩
          rw [Ev.has, hn.out, hasL_at hk (by rw [← hzk'.out]; exact hyz)]
          try rfl
        · have hyz : z ≠ name := bytes_beq_false (by assumption)
          exact ⟨⟨k + 1, hup'.out.next hk (by rw [← hzk'.out]; exact hyz), by go_num⟩, by simp [intOf]; omega⟩
      · go_wp2_with fail
        go_ret
        refine ⟨ret_bool ?_, hbl'.out⟩
        rw [Ev.has, hn.out, hasL_upto (fun j hj => hup'.out.2 j (by omega)), Bool.false_and]
  by_cases hk3 : kind = 3
  · subst hk3
    have hn : Hid (ev.names 3 = [auText ev.au]) := rfl
    go_enter Tryz.func35, Tryz.ntmps35
    go_wp2_with (refine wpList_load_mid rfl 24 _ rfl w.heap.size 1 rfl _ _ hrow Tryz.underlying24 rfl rfl ?_)
    go_at_call 29
    refine (refauthor_lit v1 v2 v3 v4 v5 v6 v7 v8 v9 v10 v11 v12 v13 v14 v15 v16 ev.au hau'.out _).mono ?_
    rintro e w6 ⟨rfl, hb6⟩
    have hb60 : Below w.heap.size w w6 := hb0.out.trans (hb6.mono (by simp))
    have hb6' := Lib.hid hb60
    clear hb6 hb60 hrow
    obtain ⟨tx, htx⟩ : ∃ t, t = auText ev.au := ⟨_, rfl⟩
    rw [← htx] at hn
    rw [← htx]
    have htz : tx.size ≤ 9223372036854775807 := by rw [htx]; exact auText_le (by have := congrArg List.length hau'.out; simpa [byteVals] using this.symm)
    clear htx
    go_wp2_with fail
    have hsl0 : SliceStr (w6.alloc (.cells #[.string tx] 9)) (.slice (some ⟨w6.heap.size, 0, none⟩) [tx].length 1) [tx] := by
      refine Or.inr ⟨w6.heap.size, 0, 1, rfl, Nat.le_refl 1, ⟨by decide, by show 1 ≤ 9223372036854775807; decide⟩, by simp, fun k hk => ?_, fun z hz => ?_⟩
      · obtain rfl : k = 0 := by simp at hk; omega
        rw [cell_of_row _ _ _ _ _ _ (heap_alloc_new w6 _)]; rfl
      · rw [List.mem_singleton.1 hz]; exact htz
    have hbl0 : Below w.heap.size w (w6.alloc (.cells #[.string tx] 9)) := hb6'.out.alloc hb6'.out.size _
    obtain ⟨W9, hW9⟩ : ∃ W9, W9 = w6.alloc (.cells #[.string tx] 9) := ⟨_, rfl⟩
    rw [← hW9]
    rw [← hW9] at hsl0 hbl0
    have hsl' := Lib.hid hsl0
    have hbl' := Lib.hid hbl0
    clear hW9 hsl0 hbl0 htz
    go_loop [8] (fun i => ∃ k : Nat, Upto ([tx]).length k (fun j => ([tx]).getD j ByteArray.empty ≠ name) ∧ i = .int .i64 k) (fun i => ([tx]).length - (intOf i).toNat)
    case atStart => exact ⟨0, Upto.zero _ _, rfl⟩
    case round =>
      obtain ⟨k, hup, rfl⟩ := hrel
      have hup' := Lib.hid hup
      clear hup
      by_cases hk : k < ([tx]).length
      · obtain ⟨ga', gc', hform, hgf⟩ := hsl'.out.form
        cases hform
        obtain ⟨bb, o, hA, hcell⟩ := hgf k hk
        cases hA
        obtain rfl : k = 0 := by simp at hk; omega
        rw [Nat.zero_add] at hcell
        obtain ⟨z, hzk⟩ : ∃ z, z = ([tx]).getD 0 ByteArray.empty := ⟨_, rfl⟩
        rw [← hzk] at hcell
        clear hk
        have hk : (0 : Nat) < [tx].length := by simp
        have hzk' := Lib.hid hzk
        clear hzk hgf
        go_wp2_with fail
        · have hyz : z = name := bytes_beq_true (by assumption)
          go_ret
          refine ⟨ret_bool ?_, hbl'.out⟩
          rw [Ev.has, hn.out, hasL_at hk (by rw [← hzk'.out]; exact hyz)]
          try rfl
        · have hyz : z ≠ name := bytes_beq_false (by assumption)
          exact ⟨⟨1, hup'.out.next hk (by rw [← hzk'.out]; exact hyz), by go_num⟩, by simp [intOf]⟩
      · obtain rfl : k = 1 := by have := hup'.out.1; simp at hk this; omega
        go_wp2_with fail
        go_ret
        refine ⟨ret_bool ?_, hbl'.out⟩
        rw [Ev.has, hn.out, hasL_upto (fun j hj => hup'.out.2 j (by simpa using hj)), Bool.false_and]
  have hn : Hid (ev.names kind = ev.gs) := by show ev.names kind = ev.gs; rw [Ev.names, if_neg hk2, if_neg hk3]
  have hk2' : (kind == 2) = false := beq_eq_false_iff_ne.2 hk2
  have hk3' : (kind == 3) = false := beq_eq_false_iff_ne.2 hk3
  · clear hrow hk2 hk3
    go_enter Tryz.func35, Tryz.ntmps35
    go_wp2_with fail
    obtain ⟨W9, hW9⟩ : ∃ W9, W9 = w.alloc (.cells #[.int .i64 mi, v1, v2, v3, v4, v5, v6, v7, v8, v9, v10, v11, v12, v13, v14, v15, v16, .slice ga ev.gs.length gc, .slice sa ev.ss.length sc, .int .i64 b] 27) := ⟨_, rfl⟩
    rw [← hW9]
    rw [← hW9] at hg' hb0
    have hsl' := hg'
    have hbl' := hb0
    clear hW9 hs' hk2' hk3'
    go_loop [8] (fun i => ∃ k : Nat, Upto (ev.gs).length k (fun j => (ev.gs).getD j ByteArray.empty ≠ name) ∧ i = .int .i64 k) (fun i => (ev.gs).length - (intOf i).toNat)
    case atStart => exact ⟨0, Upto.zero _ _, rfl⟩
    case round =>
      obtain ⟨k, hup, rfl⟩ := hrel
      have hup' := Lib.hid hup
      clear hup
      by_cases hk : k < (ev.gs).length
      · obtain ⟨ga', gc', hform, hgf⟩ := hsl'.out.form
        cases hform
        obtain ⟨bb, o, rfl, hcell⟩ := hgf k hk
        obtain ⟨z, hzk⟩ : ∃ z, z = (ev.gs).getD k ByteArray.empty := ⟨_, rfl⟩
        rw [← hzk] at hcell
        have hzk' := Lib.hid hzk
        clear hzk hgf
        by_cases hka : 1 ≤ kind
        · by_cases hkb : kind ≤ 3
          · go_wp2_with fail
            · have hyz : z = name := bytes_beq_true (by assumption)
              go_ret
              refine ⟨ret_bool ?_, hbl'.out⟩
              rw [Ev.has, hn.out, hasL_at hk (by rw [← hzk'.out]; exact hyz)]
              simp [*]
            · have hyz : z ≠ name := bytes_beq_false (by assumption)
              exact ⟨⟨k + 1, hup'.out.next hk (by rw [← hzk'.out]; exact hyz), by go_num⟩, by simp [intOf]; omega⟩
          · have hkc : 3 < kind := by omega
            clear hkb
            go_wp2_with fail
            · have hyz : z = name := bytes_beq_true (by assumption)
              go_ret
              refine ⟨ret_bool ?_, hbl'.out⟩
              rw [Ev.has, show decide (kind ≤ 3) = false from decide_eq_false (by omega), Bool.and_false, Bool.and_false]
              try (simp; omega)
            · have hyz : z ≠ name := bytes_beq_false (by assumption)
              exact ⟨⟨k + 1, hup'.out.next hk (by rw [← hzk'.out]; exact hyz), by go_num⟩, by simp [intOf]; omega⟩
        · have hkc : kind < 1 := by omega
          clear hka
          go_wp2_with fail
          · have hyz : z = name := bytes_beq_true (by assumption)
            go_ret
            refine ⟨ret_bool ?_, hbl'.out⟩
            rw [Ev.has, show decide (1 ≤ kind) = false from decide_eq_false (by omega), Bool.false_and, Bool.and_false]
            try (simp; omega)
          · have hyz : z ≠ name := bytes_beq_false (by assumption)
            exact ⟨⟨k + 1, hup'.out.next hk (by rw [← hzk'.out]; exact hyz), by go_num⟩, by simp [intOf]; omega⟩
      · go_wp2_with fail
        go_ret
        refine ⟨ret_bool ?_, hbl'.out⟩
        rw [Ev.has, hn.out, hasL_upto (fun j hj => hup'.out.2 j (by omega)), Bool.false_and]
end Go.Proofs.YtlemadbmlnjhpaaGreatDoor
