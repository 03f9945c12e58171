/- build. -/
import Derived.Test.YtlemadbmlnjhpaaGreatDoorKG
namespace Go.Proofs.YtlemadbmlnjhpaaGreatDoor
open Go Go.RowKit Go.Proofs
set_option linter.unusedSimpArgs false
set_option linter.unusedVariables false

def addsL (L : List (Key × Cnt)) (es : List Ev) : List (Key × Cnt) := es.foldl (fun L e => addL L e.mi e.au e.gs e.ss e.b) L
def addsZ (zs : List Int) (es : List Ev) : List Int := es.foldl (fun zs e => addZ zs e.mi e.gs e.ss e.b) zs
theorem addsL_snoc (L : List (Key × Cnt)) (es : List Ev) (e : Ev) : addsL L (es ++ [e]) = addL (addsL L es) e.mi e.au e.gs e.ss e.b := by simp [addsL]
theorem addsZ_snoc (zs : List Int) (es : List Ev) (e : Ev) : addsZ zs (es ++ [e]) = addZ (addsZ zs es) e.mi e.gs e.ss e.b := by simp [addsZ]
def okEvs (es : List Ev) : List Ev := es.filter fun e => e.err == 0
theorem okEvs_snoc (es : List Ev) (e : Ev) : okEvs (es ++ [e]) = if e.err = 0 then okEvs es ++ [e] else okEvs es := by
  unfold okEvs
  rw [List.filter_append]
  by_cases h : e.err = 0 <;> simp [h]
theorem addsL_bnd : ∀ (es : List Ev) (L : List (Key × Cnt)) (N : Int), BndN L N → BndN (addsL L es) (N + 100 * es.length)
  | [], L, N, h => by simpa [addsL] using h
  | e :: r, L, N, h => by
    have := addsL_bnd r _ _ (h.add e.mi e.au e.gs e.ss e.b)
    have e2 : N + 100 + 100 * (r.length : Int) = N + 100 * ((e :: r).length : Int) := by simp; omega
    rw [e2] at this; exact this
theorem addsZ_bnd : ∀ (es : List Ev) (zs : List Int) (N : Int), SzN zs N → 0 ≤ N → SzN (addsZ zs es) (N + 100 * es.length)
  | [], L, N, h, _ => by simpa [addsZ] using h
  | e :: r, L, N, h, h0 => by
    have := addsZ_bnd r _ _ (h.add h0 e.mi e.gs e.ss e.b) (by omega)
    have e2 : N + 100 + 100 * (r.length : Int) = N + 100 * ((e :: r).length : Int) := by simp; omega
    rw [e2] at this; exact this
theorem bnd_nil : BndN [] 0 := ⟨fun q hq => by simp at hq, by simp [sumBy], by simp [sumBy]⟩
theorem sz_none : SzN noSizes 0 := fun z hz => by simp [noSizes] at hz; omega

theorem Kept.toBelow {B B' sb m : Nat} {a b : World} (h : Kept B sb m a b) (h1 : B' ≤ B) (h2 : B' ≤ sb) (h3 : B' ≤ m) : Below B' a b :=
  ⟨h.os, h.tape, h.output, h.size, fun k hk => h.block k (by omega) (by omega) (by omega)⟩
theorem ownsRow_block {w w' : World} {base : Nat} {e : TypeId} {size : Nat} {v : Value} {n : Nat} {xs : List Value} (h : w.ownsRow base e size v n xs) (hb : ∀ g, base ≤ g → g < w.heap.size → w'.heap[g]? = w.heap[g]?) : w'.ownsRow base e size v n xs := by
  refine ⟨h.1, ?_⟩
  rcases h.2 with hn | ⟨g, cap, cur, rfl, hbg, hgg, rest⟩
  · exact .inl hn
  · exact .inr ⟨g, cap, cur, rfl, hbg, (hb g hbg (Array.getElem?_eq_some_iff.1 hgg).1).trans hgg, rest⟩

/-- a slice of the call's own that holds events of an elder world -/
def OwnEv (w wr : World) (base : Nat) (ov : Value) (os : List Ev) : Prop :=
  ∃ xs, wr.ownsRow base 27 20 ov os.length xs ∧ ∀ k e, os[k]? = some e → ∃ cs, (∀ j u, cs[j]? = some u → xs[k * 20 + j]? = some u) ∧ EvAt w e cs
theorem OwnEv.block {w wr w' : World} {base : Nat} {ov : Value} {os : List Ev} (h : OwnEv w wr base ov os) (hb : ∀ g, base ≤ g → g < wr.heap.size → w'.heap[g]? = wr.heap[g]?) : OwnEv w w' base ov os := by
  obtain ⟨xs, h1, h2⟩ := h
  exact ⟨xs, ownsRow_block h1 hb, h2⟩
theorem OwnEv.slice {w wr : World} {base : Nat} {ov : Value} {os : List Ev} (h : OwnEv w wr base ov os) (hl : os.length ≤ 9223372036854775807) (hb : Below w.heap.size w wr) : SliceEv wr ov os := by
  obtain ⟨xs, ⟨h1, h2⟩, h3⟩ := h
  rcases h2 with ⟨rfl, h0⟩ | ⟨g, cap, cur, rfl, hb', hg, h4, h5, h6, h7⟩
  · exact .inl ⟨_, _, rfl, List.eq_nil_of_length_eq_zero h0⟩
  · refine .inr ⟨g, 0, cap, rfl, ⟨by unfold maxLen at h5; omega, hl⟩, (Array.getElem?_eq_some_iff.1 hg).1, fun k e hk => ?_⟩
    obtain ⟨cs, hc1, hc2⟩ := h3 k e hk
    refine ⟨cs, fun j u hj => ?_, hc2.below hb⟩
    rw [cell_of_row _ _ _ _ _ _ hg]
    have hx := hc1 j u hj
    rw [← h7, List.getElem?_take] at hx
    split at hx
    · rw [Nat.zero_add, ← Array.getElem?_toList]; exact hx
    · cases hx
theorem OwnEv.append {w w' : World} {base : Nat} {ov : Value} {os : List Ev} {xs cs : List Value} {ev : Ev} (hl : xs.length = os.length * 20) (h : w'.ownsRow base 27 20 ov (os.length + 1) (xs ++ cs)) (h2 : ∀ k e, os[k]? = some e → ∃ cs, (∀ j u, cs[j]? = some u → xs[k * 20 + j]? = some u) ∧ EvAt w e cs) (he : EvAt w ev cs) : OwnEv w w' base ov (os ++ [ev]) := by
  refine ⟨xs ++ cs, by simpa using h, fun k e hk => ?_⟩
  rcases Nat.lt_or_ge k os.length with hlt | hge
  · rw [List.getElem?_append_left hlt] at hk
    obtain ⟨ds, h3, h4⟩ := h2 k e hk
    refine ⟨ds, fun j u hj => ?_, h4⟩
    have := h3 j u hj
    rw [List.getElem?_append_left (List.getElem?_eq_some_iff.1 this).1]; exact this
  · rw [List.getElem?_append_right hge] at hk
    have hk0 : k - os.length = 0 := by
      rcases Nat.eq_zero_or_pos (k - os.length) with h | h
      · exact h
      · rw [List.getElem?_eq_none (by simp only [List.length_singleton]; omega)] at hk; cases hk
    rw [hk0] at hk
    obtain rfl : ev = e := by simpa using hk
    have hke : k = os.length := by omega
    refine ⟨cs, fun j u hj => ?_, he⟩
    rw [List.getElem?_append_right (by rw [hl, hke]; omega), hl, hke]
    rw [show os.length * 20 + j - os.length * 20 = j by omega]; exact hj

structure BuildAt (w wr : World) (es : List Ev) (ov : Value) : Prop where
  bel : Below w.heap.size w wr
  st : StatsAt wr (w.heap.size + 1) w.heap.size (addsL [] es) (addsZ noSizes es)
  own : OwnEv w wr (w.heap.size + 2) ov (okEvs es)
theorem BuildAt.below {w wr w' : World} {es : List Ev} {ov : Value} (h : BuildAt w wr es ov) (hb : Below wr.heap.size wr w') : BuildAt w w' es ov :=
  ⟨h.bel.trans (hb.mono h.bel.size), h.st.below hb, h.own.block fun g _ hg => hb.block g hg⟩
def BuildEnd (w : World) (es : List Ev) (e : Ending) (w' : World) : Prop := ∃ ov, e = .returned (.tuple #[.pointer (some ⟨w.heap.size + 1, 0, none⟩), ov, .bool true]) ∧ BuildAt w w' es ov

theorem EvAt.one {w : World} {e : Ev} {cs : List Value} (h : EvAt w e cs) : ∀ u ∈ cs, u.oneCell' = true := by
  obtain ⟨v1, v2, v3, v4, v5, v6, v7, v8, v9, v10, v11, v12, v13, v14, v15, v16, g, sv, rfl, hau, hg, hs, _⟩ := h
  obtain ⟨ga, gc, rfl, _⟩ := hg.form
  obtain ⟨sa, sc, rfl, _⟩ := hs.form
  have hb : ∀ u ∈ [v1, v2, v3, v4, v5, v6, v7, v8, v9, v10, v11, v12, v13, v14, v15, v16], u.oneCell' = true := by
    rw [hau]; intro u hu
    simp only [byteVals, List.mem_map] at hu
    obtain ⟨c, _, rfl⟩ := hu; rfl
  intro u hu
  rcases List.mem_cons.1 hu with rfl | hu
  · rfl
  · rcases List.mem_append.1 (show u ∈ [v1, v2, v3, v4, v5, v6, v7, v8, v9, v10, v11, v12, v13, v14, v15, v16] ++ [.slice ga e.gs.length gc, .slice sa e.ss.length sc, .int .i64 e.b] from hu) with h | h
    · exact hb u h
    · simp only [List.mem_cons, List.mem_nil_iff, or_false] at h
      rcases h with rfl | rfl | rfl <;> rfl
theorem StatsAt.block {w w' : World} {sb m : Nat} {L : List (Key × Cnt)} {zs : List Int} (h : StatsAt w sb m L zs) (h1 : w'.heap[sb]? = w.heap[sb]?) (h2 : w'.heap[m]? = w.heap[m]?) : StatsAt w' sb m L zs := ⟨h1.trans h.1, h.2.1, h.2.2.block h2⟩
theorem Tryz.infoEv : (Tryz.prog.info? 27).map (fun i => (i.zero, i.size, i.bytes)) = some (some (.agg #[.int .i64 0, .int .u8 0, .int .u8 0, .int .u8 0, .int .u8 0, .int .u8 0, .int .u8 0, .int .u8 0, .int .u8 0, .int .u8 0, .int .u8 0, .int .u8 0, .int .u8 0, .int .u8 0, .int .u8 0, .int .u8 0, .int .u8 0, .slice none 0 0, .slice none 0 0, .int .i64 0]), 20, 80) := by kernel_rfl
set_option maxRecDepth 100000 in
set_option maxHeartbeats 3200000 in
theorem build_any (v : Value) (es : List Ev) (w : World) (hv : SliceEv w v es) (hl : es.length ≤ 1000) : Calls Tryz.prog 10 #[v] w (BuildEnd w es) := by
  obtain ⟨i0, hi, hz0, hz1, hz2⟩ := info_parts Tryz.infoEv
  obtain ⟨va, vc, rfl, _, hvf⟩ := hv.form
  have hvf' := Lib.hid hvf
  clear hvf hv
  have hi' := Lib.hid hi
  have hz0' := Lib.hid hz0
  have hz1' := Lib.hid hz1
  have hz2' := Lib.hid hz2
  clear hi hz0 hz1 hz2
  go_enter Tryz.func10, Tryz.ntmps10
  go_wp2_with (go_at_call 25; refine (new_any _).mono ?_; rintro e w0 ⟨rfl, hst0, hbl0⟩; have hst0' := Lib.hid hst0; have hbl0' := Lib.hid hbl0; clear hst0 hbl0)
  go_loopw [6, 7] (fun ov i wr => ∃ k : Nat, k ≤ es.length ∧ i = .int .i64 k ∧ BuildAt w wr (es.take k) ov) (fun _ i _ => es.length - (intOf i).toNat)
  case atStart => exact ⟨0, by omega, rfl, ⟨hbl0'.out, hst0'.out, [], World.ownsRow_nil _ _ _ _, fun k e hk => by simp [okEvs] at hk⟩⟩
  case round =>
    obtain ⟨k, hk0, rfl, hA⟩ := hrel
    have hA' := Lib.hid hA
    clear hA
    by_cases hk : k < es.length
    · obtain ⟨ev, hev⟩ : ∃ e, es[k]? = some e := ⟨_, List.getElem?_eq_getElem hk⟩
      obtain ⟨bb, o, cs, rfl, hrg, hea⟩ := hvf'.out k ev hev
      have hea' := Lib.hid hea
      obtain ⟨v1, v2, v3, v4, v5, v6, v7, v8, v9, v10, v11, v12, v13, v14, v15, v16, g, sv, rfl, hau, hg, hs, _, _⟩ := hea
      have hbb : bb < w.heap.size := World.block_lt_of_cell? w _ (hrg 0 _ rfl)
      have hrgB : ∀ W, Below w.heap.size w W → W.rangeAt bb (o + k * 20) [.int .i64 ev.mi, v1, v2, v3, v4, v5, v6, v7, v8, v9, v10, v11, v12, v13, v14, v15, v16, g, sv, .int .i64 ev.b] := fun W hW j v hj => (hW.cell (p := ⟨bb, _, none⟩) hbb).trans (hrg j v hj)
      have hck := fun W (hW : Below w.heap.size w W) => mcheck_lit ev.mi v1 v2 v3 v4 v5 v6 v7 v8 v9 v10 v11 v12 v13 v14 v15 v16 g sv ev.b ev.gs ev.ss W (hg.below hW) (hs.below hW)
      have hec := fun W (hW : Below w.heap.size w W) => evcheck_lit ev.mi v1 v2 v3 v4 v5 v6 v7 v8 v9 v10 v11 v12 v13 v14 v15 v16 g sv ev.b ev.gs ev.ss W (hg.below hW) (hs.below hW)
      have hbN := addsL_bnd (es.take k) [] 0 bnd_nil
      have hbZ := addsZ_bnd (es.take k) noSizes 0 sz_none (by omega)
      have hkl : (es.take k).length = k := by simp; omega
      rw [hkl] at hbN hbZ
      have hac := fun W (hW : BuildAt w W (es.take k) u6) => add_lit (w.heap.size + 1) w.heap.size (addsL [] (es.take k)) (addsZ noSizes (es.take k)) (0 + 100 * (k : Int)) ev.mi v1 v2 v3 v4 v5 v6 v7 v8 v9 v10 v11 v12 v13 v14 v15 v16 g sv ev.au hau ev.b ev.gs ev.ss W (hg.below hW.bel) (hs.below hW.bel) hW.st hbN (by omega) hbZ
      have hnA : ∀ W W' er, BuildAt w W (es.take k) u6 → AddEnd W (w.heap.size + 1) w.heap.size (addsL [] (es.take k)) (addsZ noSizes (es.take k)) ev.mi ev.au ev.gs ev.ss ev.b er W' →
          Below w.heap.size w W' ∧ StatsAt W' (w.heap.size + 1) w.heap.size (addsL [] (es.take (k + 1))) (addsZ noSizes (es.take (k + 1))) ∧ OwnEv w W' (w.heap.size + 2) u6 (okEvs (es.take k)) ∧ er = .returned (.int .i64 (evErr ev.mi ev.gs ev.ss ev.b)) := fun W W' er hW hE => by
        obtain ⟨h1, h2, h3⟩ := hE
        refine ⟨hW.bel.trans (h3.toBelow hW.bel.size (by omega) (by omega)), ?_, hW.own.block fun g hg1 hg2 => h3.block g hg2 (by omega) (by omega), h1⟩
        rw [take_some hev, addsL_snoc, addsZ_snoc]; exact h2
      have hok : okEvs (es.take (k + 1)) = if evErr ev.mi ev.gs ev.ss ev.b = 0 then okEvs (es.take k) ++ [ev] else okEvs (es.take k) := by rw [take_some hev, okEvs_snoc]; rfl
      obtain ⟨er, her⟩ : ∃ er, er = evErr ev.mi ev.gs ev.ss ev.b := ⟨_, rfl⟩
      rw [← her] at hck hec hok hnA
      obtain ⟨mi, hmi⟩ : ∃ x, x = ev.mi := ⟨_, rfl⟩
      obtain ⟨b, hb⟩ : ∃ x, x = ev.b := ⟨_, rfl⟩
      rw [← hmi, ← hb] at hck hec hrgB hac hnA hea'
      have hck' := Lib.hid hck
      have hec' := Lib.hid hec
      have hac' := Lib.hid hac
      have hnA' := Lib.hid hnA
      have hok' := Lib.hid hok
      have hrgB' := Lib.hid hrgB
      clear hck hec hac hnA hok hrgB hbN hbZ hkl her hmi hb hau hg hs hev hrg
      go_wp2_with (first | (refine wpList_load_guard rfl 27 _ rfl bb (o + k * 20) rfl _ _ (hrgB'.out _ hA'.out.bel) Tryz.underlying27 rfl rfl ?_))
      go_at_call 30
      refine (hck'.out _ hA'.out.bel).mono ?_
      rintro e w1 ⟨rfl, hb1⟩
      have hA1' := Lib.hid (hA'.out.below hb1)
      clear hb1
      go_wp2_with (first | (refine wpList_load_guard rfl 27 _ rfl bb (o + k * 20) rfl _ _ (hrgB'.out _ hA1'.out.bel) Tryz.underlying27 rfl rfl ?_))
      go_at_call 26
      refine (hac'.out _ hA1'.out).mono ?_
      intro e w2 hE
      obtain ⟨n1, n2, n3, rfl⟩ := hnA'.out _ _ _ hA1'.out hE
      have n1' := Lib.hid n1
      have n2' := Lib.hid n2
      have n3' := Lib.hid n3
      have her1 : (er != er) = false := by simp
      clear n1 n2 n3 hE
      go_wp2_with (first | (refine wpList_load_guard rfl 27 _ rfl bb (o + k * 20) rfl _ _ (hrgB'.out _ n1'.out) Tryz.underlying27 rfl rfl ?_))
      go_at_call 31
      refine (hec'.out _ n1'.out).mono ?_
      rintro e w3 ⟨rfl, hb3⟩
      have p1 : Below w.heap.size w w3 := n1'.out.trans (hb3.mono n1'.out.size)
      have p2 := n2'.out.below hb3
      have p3 : OwnEv w w3 (w.heap.size + 2) u6 (okEvs (es.take k)) := n3'.out.block fun g _ hg => hb3.block g hg
      have p1' := Lib.hid p1
      have p2' := Lib.hid p2
      have p3' := Lib.hid p3
      clear p1 p2 p3 hb3
      by_cases he0 : er = 0
      · subst he0
        rw [if_pos rfl] at hok'
        obtain ⟨xs, hown, hcs⟩ := p3'.out
        have hone := hea'.out.one
        have hokl : (okEvs (es.take k)).length ≤ 1000 := Nat.le_trans (List.length_filter_le _ _) (by simp; omega)
        obtain ⟨n, hn⟩ : ∃ n, n = (okEvs (es.take k)).length := ⟨_, rfl⟩
        rw [← hn] at hown hokl
        obtain ⟨W4, hW4⟩ : ∃ W4, W4 = w3.alloc (.cells #[.int .i64 mi, v1, v2, v3, v4, v5, v6, v7, v8, v9, v10, v11, v12, v13, v14, v15, v16, g, sv, .int .i64 b] 27) := ⟨_, rfl⟩
        have hbel4 : Below w3.heap.size w3 W4 := by rw [hW4]; exact (Below.refl _ _).alloc (Nat.le_refl _) _
        have r0 : Hid (W4.ownsRow (w.heap.size + 2) 27 20 u6 n xs) := by show World.ownsRow _ _ _ _ _ _ _; rw [hW4]; exact hown.alloc _
        have r1 : Hid (∀ j u, [.int .i64 mi, v1, v2, v3, v4, v5, v6, v7, v8, v9, v10, v11, v12, v13, v14, v15, v16, g, sv, .int .i64 b][j]? = some u → W4.cell? ((⟨w3.heap.size, 0, none⟩ : Addr).add j) = some u) := fun j u hj => by
          rw [Addr.add_mid, hW4, cell_of_row _ w3.heap.size _ _ _ _ (heap_alloc_new w3 _)]
          simpa using hj
        have r2 : Hid (∀ u ∈ [.int .i64 mi, v1, v2, v3, v4, v5, v6, v7, v8, v9, v10, v11, v12, v13, v14, v15, v16, g, sv, .int .i64 b], u.oneCell' = true) := hone
        have r3 : Hid (n + 1 ≤ maxLen) := show n + 1 ≤ maxLen by unfold maxLen; omega
        have r4 : Hid ((n + 1) * 80 ≤ 140737488355328) := show (n + 1) * 80 ≤ 140737488355328 by omega
        have r5 : Hid (w.heap.size + 2 ≤ W4.heap.size) := by
          have h1 := p2'.out.lt.1
          have h2 := hbel4.size
          show _ ≤ _; omega
        have hbel4' := Lib.hid hbel4
        have hn' := Lib.hid hn
        have hown' := Lib.hid hown
        have hcs' := Lib.hid hcs
        have hW4' := Lib.hid hW4
        rw [hW4] at r0 r1 r5
        clear hbel4 hn hown hcs hone hW4
        go_wp2_with (first | (refine wpList_load_guard rfl 27 _ rfl bb (o + k * 20) rfl _ _ (hrgB'.out _ p1'.out) Tryz.underlying27 rfl rfl ?_) | (at_builtin; refine wpList_append_own _ rfl _ _ 22 rfl (w.heap.size + 2) 27 i0 (.agg #[.int .i64 0, .int .u8 0, .int .u8 0, .int .u8 0, .int .u8 0, .int .u8 0, .int .u8 0, .int .u8 0, .int .u8 0, .int .u8 0, .int .u8 0, .int .u8 0, .int .u8 0, .int .u8 0, .int .u8 0, .int .u8 0, .int .u8 0, .slice none 0 0, .slice none 0 0, .int .i64 0]) 20 80 Tryz.underlying22 hi'.out hz0'.out hz1'.out hz2'.out rfl (by decide) _ _ _ rfl r0.out ⟨w3.heap.size, 0, none⟩ 1 1 _ rfl rfl r1.out r2.out r3.out r4.out r5.out ?_; intro v' w4 ho hg4 _; have ho' := Lib.hid ho; have hg4' := Lib.hid hg4; clear ho hg4))
        refine ⟨⟨k + 1, by omega, by go_num, ?_⟩, by simp [intOf]; omega⟩
        have hg : W4.grownBy w4 u6.ownBlock := by rw [hW4'.out]; exact hg4'.out
        have hlt := hown'.out.lt
        have hb4 : Below w.heap.size w W4 := p1'.out.trans (hbel4'.out.mono p1'.out.size)
        have hs4 := p2'.out.below hbel4'.out
        refine ⟨hb4.grown hg hb4.size (fun j hj => by have := (hlt j hj).1; omega), hs4.block (hg.block _ hs4.lt.1 (fun hj => ?_)) (hg.block _ hs4.lt.2.1 (fun hj => ?_)), ?_⟩
        · have := (hlt _ hj.symm).1; omega
        · have := (hlt _ hj.symm).1; omega
        · rw [hok'.out]
          exact OwnEv.append (by rw [hown'.out.1, hn'.out]) (by rw [← hn'.out]; exact ho'.out) hcs'.out hea'.out
      · have he0' : (er == 0) = false := beq_eq_false_iff_ne.2 he0
        rw [if_neg he0] at hok'
        go_wp2_with fail
        exact ⟨⟨k + 1, by omega, by go_num, ⟨p1'.out, p2'.out, by rw [hok'.out]; exact p3'.out⟩⟩, by simp [intOf]; omega⟩
    · obtain rfl : k = es.length := by omega
      rw [List.take_length] at hA'
      go_wp2_with fail
      exact bodyPost_ret (v := .tuple #[.pointer (some ⟨w.heap.size + 1, 0, none⟩), u6, .bool true]) (by simp [results, Tryz.results10, go_sem]) rfl ⟨_, rfl, hA'.out⟩
end Go.Proofs.YtlemadbmlnjhpaaGreatDoor
