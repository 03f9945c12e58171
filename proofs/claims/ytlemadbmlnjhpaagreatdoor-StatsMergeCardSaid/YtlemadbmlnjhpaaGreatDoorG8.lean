/- Slices of numbers; numbers; the model's sizes. -/
/- The model's sizes. -/
/- cmp.Or at numbers; the order of keys. -/
/- The order of keys is total. -/
/- What SortFunc asks of compare. -/
import Derived.Test.YtlemadbmlnjhpaaGreatDoorG6
import Derived.Sort.Statements
import Derived.Shelf.SlSortCmp.Insertion
import Derived.Shelf.SlSortCmp.InsertionK
namespace Go.Proofs.YtlemadbmlnjhpaaGreatDoor
open Go Go.RowKit Go.Proofs
set_option linter.unusedSimpArgs false
set_option linter.unusedVariables false

/-- a slice of numbers in memory -/
def SliceInt (w : World) (v : Value) (zs : List Int) : Prop :=
  (∃ A c, v = .slice A 0 c ∧ zs = []) ∨ ∃ b o c, v = .slice (some ⟨b, o, none⟩) zs.length c ∧ (c ≤ 9223372036854775807 ∧ zs.length ≤ c) ∧ b < w.heap.size ∧ ∀ j, j < zs.length → w.cell? ⟨b, o + j, none⟩ = some (.int .i64 (zs.getD j 0))
theorem SliceInt.below {w w' : World} {v : Value} {zs : List Int} (h : SliceInt w v zs) (hb : Below w.heap.size w w') : SliceInt w' v zs := by
  rcases h with h | ⟨b, o, c, h1, h2, h4, h5⟩
  · exact .inl h
  · exact .inr ⟨b, o, c, h1, h2, by have := hb.size; omega, fun j hj => (hb.cell (p := ⟨b, o + j, none⟩) h4).trans (h5 j hj)⟩
theorem SliceInt.form {w : World} {v : Value} {zs : List Int} (h : SliceInt w v zs) : ∃ A c, v = .slice A zs.length c ∧ zs.length ≤ 9223372036854775807 ∧ ∀ k, k < zs.length → ∃ bb o, A = some ⟨bb, o, none⟩ ∧ w.cell? ⟨bb, o + k, none⟩ = some (.int .i64 (zs.getD k 0)) := by
  rcases h with ⟨A, c, rfl, rfl⟩ | ⟨bb, o, c, rfl, g1, g3, g4⟩
  · exact ⟨_, _, rfl, by simp, fun k hk => by simp at hk⟩
  · exact ⟨_, _, rfl, by omega, fun k hk => ⟨bb, o, rfl, g4 k hk⟩⟩
theorem list_ext_getD {a b : List Int} (hl : a.length = b.length) (h : ∀ j, j < a.length → a.getD j 0 = b.getD j 0) : a = b := by
  refine List.ext_getElem hl fun i h1 h2 => ?_
  have := h i h1
  rw [List.getD_eq_getElem?_getD, List.getD_eq_getElem?_getD, List.getElem?_eq_getElem h1, List.getElem?_eq_getElem h2] at this
  simpa using this

set_option maxHeartbeats 1600000 in
theorem numbers_any (u v : Value) (a b : List Int) (w : World) (ha : SliceInt w u a) (hb : SliceInt w v b) :
    Calls Tryz.prog 13 #[u, v] w fun e w' => e = .returned (.bool (decide (a = b))) ∧ Below w.heap.size w w' := by
  obtain ⟨ua, uc, rfl, hul, huf⟩ := ha.form
  obtain ⟨va, vc, rfl, hvl, hvf⟩ := hb.form
  have huf' := Lib.hid huf
  have hvf' := Lib.hid hvf
  clear huf hvf ha hb
  by_cases hl : a.length = b.length
  · have hli : (((a.length : Nat) : Int) != ((b.length : Nat) : Int)) = false := by simp [hl]
    have hl' := Lib.hid hl
    clear hl
    go_enter Tryz.func13, Tryz.ntmps13
    go_wp2_with fail
    clear hli
    go_loopw [5] (fun i wr => ∃ k : Nat, Upto a.length k (fun j => a.getD j 0 = b.getD j 0) ∧ i = .int .i64 k ∧ Below w.heap.size w wr) (fun i _ => a.length - (intOf i).toNat)
    case atStart => exact ⟨0, Upto.zero _ _, rfl, Below.refl _ _⟩
    case round =>
      obtain ⟨k, hup, rfl, hbl⟩ := hrel
      have hup' := Lib.hid hup
      have hbl' := Lib.hid hbl
      clear hup hbl
      by_cases hk : k < a.length
      · obtain ⟨bb, o, rfl, hc⟩ := huf'.out k hk
        obtain ⟨bd, od, rfl, hd⟩ := hvf'.out k (by rw [← hl'.out]; exact hk)
        have hkb : k < b.length := by rw [← hl'.out]; exact hk
        obtain ⟨x, hx⟩ : ∃ x, x = a.getD k 0 := ⟨_, rfl⟩
        obtain ⟨y, hy⟩ : ∃ x, x = b.getD k 0 := ⟨_, rfl⟩
        rw [← hx] at hc
        rw [← hy] at hd
        have hc' : wr.cell? ⟨bb, o + k, none⟩ = some (.int .i64 x) := (hbl'.out.cell (p := ⟨bb, o + k, none⟩) (World.block_lt_of_cell? w _ hc)).trans hc
        have hd' : wr.cell? ⟨bd, od + k, none⟩ = some (.int .i64 y) := (hbl'.out.cell (p := ⟨bd, od + k, none⟩) (World.block_lt_of_cell? w _ hd)).trans hd
        have hx' := Lib.hid hx
        have hy' := Lib.hid hy
        clear hc hd hx hy
        by_cases hxy : x = y
        · have hq : (x != y) = false := by simp [hxy]
          go_wp2_with fail
          go_quiet (fail)
          go_wp2_with fail
          exact ⟨⟨k + 1, hup'.out.next hk (by rw [← hx'.out, ← hy'.out]; exact hxy), by go_num, below_drewN' hbl'.out _⟩, by simp [intOf]; omega⟩
        · have hq : (x != y) = true := by simpa using hxy
          go_wp2_with fail
          go_quiet (fail)
          go_wp2_with fail
          go_ret
          refine ⟨ret_bool ?_, below_drewN' hbl'.out _⟩
          symm
          rw [decide_eq_false_iff_not]
          intro h
          exact hxy (by rw [hx'.out, hy'.out, h])
      · go_wp2_with fail
        go_ret
        refine ⟨ret_bool ?_, hbl'.out⟩
        symm
        rw [decide_eq_true_eq]
        exact list_ext_getD hl'.out (fun j hj => hup'.out.2 j (by omega))
  · have hli : (((a.length : Nat) : Int) != ((b.length : Nat) : Int)) = true := by simp; omega
    go_enter Tryz.func13, Tryz.ntmps13
    go_wp2_with fail
    go_ret
    refine ⟨ret_bool ?_, Below.refl _ _⟩
    symm
    rw [decide_eq_false_iff_not]
    intro h
    exact hl (by rw [h])
end Go.Proofs.YtlemadbmlnjhpaaGreatDoor
namespace Go.Proofs.YtlemadbmlnjhpaaGreatDoor
open Go Go.RowKit Go.Proofs
set_option linter.unusedSimpArgs false
set_option linter.unusedVariables false

theorem bitLen_iff (n : Nat) (h : n < 2 ^ 64) (k : Nat) : k < Lib.bitLen n ↔ 0 < n / 2 ^ k := by
  have key : ∀ (f n k : Nat), n < 2 ^ f → (k < Lib.bitLenAux f n ↔ 0 < n / 2 ^ k) := by
    intro f
    induction f with
    | zero => intro n k hn; simp at hn; subst hn; simp [Lib.bitLenAux]
    | succ f ih =>
      intro n k hn
      unfold Lib.bitLenAux
      split
      · rename_i h0; subst h0; simp
      · rename_i h0
        cases k with
        | zero => simp; omega
        | succ k =>
          have := ih (n / 2) k (by rw [Nat.pow_succ] at hn; omega)
          rw [Nat.pow_succ, Nat.mul_comm, ← Nat.div_div_eq_div_mul]
          rw [← this]; omega
  exact key 64 n k h
/-- the sizes of events -/
def szM (es : List Ev) : List Int := es.foldl (fun zs e => incZ zs e.b) noSizes
theorem szM_snoc (es : List Ev) (e : Ev) : szM (es ++ [e]) = incZ (szM es) e.b := by simp [szM]
theorem addsZ_szM (es : List Ev) : addsZ noSizes es = szM (okEvs es) := by
  have key : ∀ (es : List Ev) (zs : List Int), addsZ zs es = (okEvs es).foldl (fun zs e => incZ zs e.b) zs := by
    intro es
    induction es with
    | nil => intro zs; rfl
    | cons e r ih =>
      intro zs
      rw [show addsZ zs (e :: r) = addsZ (addZ zs e.mi e.gs e.ss e.b) r from rfl, ih]
      by_cases he : e.err = 0
      · have he' : evErr e.mi e.gs e.ss e.b = 0 := he
        have h1 : okEvs (e :: r) = e :: okEvs r := by unfold okEvs; rw [List.filter_cons, if_pos (by simpa using he)]
        rw [h1, addZ, if_pos he', List.foldl_cons]
      · have he' : ¬ evErr e.mi e.gs e.ss e.b = 0 := he
        have h1 : okEvs (e :: r) = okEvs r := by unfold okEvs; rw [List.filter_cons, if_neg (by simpa using he)]
        rw [h1, addZ, if_neg he']
  exact key es noSizes

/-- the state of the model's loop -/
structure SzAt (w wr : World) (zs : List Int) : Prop where
  res : wr.heap[w.heap.size]? = some (.cells (noSizes.map (Value.int .i64)).toArray 41 (0, 0))
  out : wr.heap[w.heap.size + 1]? = some (.cells (zs.map (Value.int .i64)).toArray 41 (0, 0))
  len : zs.length = 18
  bel : Below w.heap.size w wr
theorem szM_len : ∀ (es : List Ev), (szM es).length = 18 := by
  have key : ∀ (es : List Ev) (zs : List Int), (es.foldl (fun zs e => incZ zs e.b) zs).length = zs.length := by
    intro es
    induction es with
    | nil => intro zs; rfl
    | cons e r ih => intro zs; rw [List.foldl_cons, ih, incZ, List.length_set]
  intro es
  rw [szM, key]; rfl

set_option maxRecDepth 100000 in
set_option maxHeartbeats 3200000 in
theorem sizesM_any (v : Value) (es : List Ev) (w : World) (hv : SliceEv w v es) (hok : ∀ e ∈ es, e.err = 0) (hl : es.length ≤ 1000) :
    Calls Tryz.prog 17 #[v] w fun e w' => e = .returned (.agg ((szM es).map (Value.int .i64)).toArray) ∧ Below w.heap.size w w' := by
  obtain ⟨va, vc, rfl, _, hvf⟩ := hv.form
  clear hvf
  have hv' := Lib.hid hv
  have hok' := Lib.hid hok
  clear hv hok
  go_enter Tryz.func17, Tryz.ntmps17
  go_wp2_with fail
  have h0 : SzAt w ((w.alloc (.cells #[.int .i64 0, .int .i64 0, .int .i64 0, .int .i64 0, .int .i64 0, .int .i64 0, .int .i64 0, .int .i64 0, .int .i64 0, .int .i64 0, .int .i64 0, .int .i64 0, .int .i64 0, .int .i64 0, .int .i64 0, .int .i64 0, .int .i64 0, .int .i64 0] 41)).alloc (.cells #[.int .i64 0, .int .i64 0, .int .i64 0, .int .i64 0, .int .i64 0, .int .i64 0, .int .i64 0, .int .i64 0, .int .i64 0, .int .i64 0, .int .i64 0, .int .i64 0, .int .i64 0, .int .i64 0, .int .i64 0, .int .i64 0, .int .i64 0, .int .i64 0] 41)) (szM []) := ⟨heap_alloc2_old _ _ _, heap_alloc2_new _ _ _, rfl, ((Below.refl _ _).alloc (Nat.le_refl _) _).alloc (by simp) _⟩
  have h0' := Lib.hid h0
  clear h0
  go_loopw [4] (fun i wr => ∃ k : Nat, k ≤ es.length ∧ i = .int .i64 k ∧ SzAt w wr (szM (es.take k)) ∧ SzN (szM (es.take k)) k) (fun i _ => es.length - (intOf i).toNat)
  case atStart => exact ⟨0, by omega, rfl, h0'.out, sz_none⟩
  case round =>
    obtain ⟨k, hk0, rfl, hA, hN⟩ := hrel
    by_cases hk : k < es.length
    · obtain ⟨ev, hev⟩ : ∃ e, es[k]? = some e := ⟨_, List.getElem?_eq_getElem hk⟩
      obtain ⟨_, eb1, eb2⟩ := Ev.ok (hok'.out ev (List.mem_of_getElem? hev))
      obtain ⟨va', vc', hform, _, hvf⟩ := hv'.out.form
      cases hform
      obtain ⟨bb, o, cs, rfl, hrg0, hea⟩ := hvf k ev hev
      have hcs : cs[19]? = some (.int .i64 ev.b) := by
        obtain ⟨v1, v2, v3, v4, v5, v6, v7, v8, v9, v10, v11, v12, v13, v14, v15, v16, g, sv, e, _⟩ := hea; rw [e]; rfl
      have hc0 := hrg0 19 _ hcs
      have hbb0 : bb < w.heap.size := World.block_lt_of_cell? w _ hc0
      have hnext : Hid (szM (es.take (k + 1)) = incZ (szM (es.take k)) ev.b) := by show _ = _; rw [take_some hev, szM_snoc]
      obtain ⟨b, hb⟩ : ∃ b, b = ev.b := ⟨_, rfl⟩
      rw [← hb] at hc0 eb1 eb2 hnext
      have hc : wr.cell? ⟨bb, o + k * 20 + 19, none⟩ = some (.int .i64 b) := (hA.bel.cell (p := ⟨bb, _, none⟩) hbb0).trans hc0
      obtain ⟨zs, hzs⟩ : ∃ zs, zs = szM (es.take k) := ⟨_, rfl⟩
      rw [← hzs] at hA hN hnext
      have hA' := Lib.hid hA
      have hN' := Lib.hid hN
      clear hA hN hzs hb hrg0 hea hcs hc0 hvf hev
      go_wp2_with fail
      go_loop [5] (fun i => ∃ j : Nat, j ≤ Lib.bitLen b.toNat ∧ i = .int .i64 j) (fun i => 64 - (intOf i).toNat)
      case atStart => exact ⟨0, by omega, rfl⟩
      case round =>
        obtain ⟨j, hj0, rfl⟩ := hrel
        have hb17 : Lib.bitLen b.toNat ≤ 17 := bitLen_le _ (by omega)
        have hmin : min j 64 = j := by omega
        have hdiv : b / 2 ^ j = ((b.toNat / 2 ^ j : Nat) : Int) := by
          rw [Int.natCast_ediv, Int.toNat_of_nonneg eb1]; simp
        have hiff := bitLen_iff b.toNat (by omega) j
        by_cases hj : j < Lib.bitLen b.toNat
        · have hq : 0 < b / 2 ^ j := by rw [hdiv]; have := hiff.1 hj; omega
          clear hiff hdiv hmin
          go_wp2_with fail
          exact ⟨⟨j + 1, by omega, by go_num⟩, by simp [intOf]; omega⟩
        · have hq : b / 2 ^ j ≤ 0 := by rw [hdiv]; have := fun h => hj (hiff.2 h); omega
          obtain rfl : j = Lib.bitLen b.toNat := by omega
          obtain ⟨n, hn⟩ : ∃ n, n = Lib.bitLen b.toNat := ⟨_, rfl⟩
          rw [← hn] at hq hb17
          rw [← hn]
          have hzl := hA'.out.len
          obtain ⟨z, hzn⟩ : ∃ z, z = zs.getD n 0 := ⟨_, rfl⟩
          have hzb : 0 ≤ z ∧ z ≤ k := by
            have hm : z ∈ zs := by rw [hzn, List.getD_eq_getElem?_getD, List.getElem?_eq_getElem (by omega), Option.getD_some]; exact List.getElem_mem _
            exact hN'.out z hm
          have q2 : wr.cell? ⟨w.heap.size + 1, n, none⟩ = some (.int .i64 z) := by
            rw [cell_of_row _ _ _ _ _ _ hA'.out.out, hzn]
            simp [List.getD_eq_getElem?_getD, show n < zs.length by omega]
          have q3 : wr.frozen? ⟨w.heap.size + 1, n, none⟩ = false := frozen_of_row _ _ _ _ _ hA'.out.out
          have hx0 : (0 : Int) ≤ (n : Int) := by omega
          have hx1 : (n : Int) < 18 := by omega
          obtain ⟨hz1, hz2⟩ := hzb
          have hn' := Lib.hid hn
          have hzn' := Lib.hid hzn
          have hzl' := Lib.hid hzl
          clear hn hzn hzl hiff hdiv hmin hj hj0
          go_wp2_with fail
          refine ⟨⟨k + 1, by omega, by go_num, ?_, ?_⟩, by simp [intOf]; omega⟩
          · rw [hnext.out, incZ, ← hn'.out, ← hzn'.out]
            refine ⟨?_, ?_, by rw [List.length_set]; exact hzl'.out, hA'.out.bel.setCell (by simp) _⟩
            · rw [heap_setCell_other _ _ _ _ (by simp)]; exact hA'.out.res
            · rw [heap_setCell_same _ _ _ _ _ _ hA'.out.out]
              congr 2
              simp [List.map_set]
          · rw [hnext.out, incZ, ← hn'.out, ← hzn'.out]
            intro y hy
            rcases List.mem_or_eq_of_mem_set hy with hy | rfl
            · have := hN'.out y hy; omega
            · omega
    · obtain rfl : k = es.length := by omega
      rw [List.take_length] at hA
      have hone : ((szM es).map (Value.int .i64)).toArray.all (·.oneCell') = true := all_oneCell_toArray fun v hv => by
        obtain ⟨x, _, rfl⟩ := List.mem_map.1 hv; rfl
      have hl18 : ((szM es).map (Value.int .i64)).length = 18 := by rw [List.length_map]; exact szM_len es
      have hs1 : (Tryz.prog.info? 41).map (·.size) = some ((szM es).map (Value.int .i64)).length := by rw [hl18]; exact Tryz.sizeArr
      have hs2 : (Tryz.prog.info? 41).map (·.size) = some ((szM es).map (Value.int .i64)).toArray.size := by rw [List.size_toArray, hl18]; exact Tryz.sizeArr
      have hrow : wr.rangeAt (w.heap.size + 1) 0 ((szM es).map (Value.int .i64)) := fun j v hj => by
        rw [cell_of_row _ _ _ _ _ _ hA.out, List.getElem?_toArray, Nat.zero_add]; exact hj
      have hth : wr.there w.heap.size 0 ((szM es).map (Value.int .i64)).toArray.size := by
        intro j hj
        rw [List.size_toArray, hl18] at hj
        refine ⟨?_, frozen_of_row _ _ _ _ _ hA.res⟩
        rw [cell_of_row _ _ _ _ _ _ hA.res, Nat.zero_add, Array.getElem?_eq_getElem (by simpa [noSizes] using hj)]; rfl
      have hres : (loadVar 41 ⟨w.heap.size, 0, none⟩).run Tryz.prog (wr.setCells w.heap.size 0 ((szM es).map (Value.int .i64)).toArray.toList) = .ok (.agg ((szM es).map (Value.int .i64)).toArray) (wr.setCells w.heap.size 0 ((szM es).map (Value.int .i64)).toArray.toList) :=
        run_loadVar_mid _ _ _ _ _ _ (by rw [List.toList_toArray]; exact World.rangeAt_setCells_same wr w.heap.size 0 _ (by simpa using hth)) Tryz.underlying41 rfl hs1
      have hbf : Below w.heap.size w (wr.setCells w.heap.size 0 ((szM es).map (Value.int .i64)).toArray.toList) := below_setCellsK (Nat.le_refl _) _ _ hA.bel
      obtain ⟨cs, hcs⟩ : ∃ cs, cs = (szM es).map (Value.int .i64) := ⟨_, rfl⟩
      rw [← hcs] at hone hs1 hs2 hrow hth hres hbf
      have hone' := Lib.hid hone
      have hs1' := Lib.hid hs1
      have hs2' := Lib.hid hs2
      have hrow' := Lib.hid hrow
      have hth' := Lib.hid hth
      have hres' := Lib.hid hres
      have hbf' := Lib.hid hbf
      have hcs' := Lib.hid hcs
      clear hone hs1 hs2 hrow hth hres hbf hl18 hA hN hcs
      go_wp2_with (first | (refine wpList_load_mid rfl 41 _ rfl (w.heap.size + 1) 0 rfl _ _ hrow'.out Tryz.underlying41 rfl hs1'.out ?_) | (refine wpList_store_mid rfl 41 _ _ rfl w.heap.size 0 _ rfl rfl hth'.out hs2'.out hone'.out ?_))
      exact bodyPost_ret (v := .agg cs.toArray) (results_cell_load Tryz.results17 _ _ _ _ rfl hres'.out) rfl ⟨by rw [hcs'.out], hbf'.out⟩
end Go.Proofs.YtlemadbmlnjhpaaGreatDoor
namespace Go.Proofs.YtlemadbmlnjhpaaGreatDoor
open Go Go.RowKit Go.Proofs
open Go.Sort (grow)
set_option linter.unusedSimpArgs false
set_option linter.unusedVariables false

/-- the first number that is not 0 -/
def orL : List Int → Int
  | [] => 0
  | x :: r => if x ≠ 0 then x else orL r
theorem orL_drop {l : List Int} {k : Nat} (h : k < l.length) : orL (l.drop k) = if l.getD k 0 ≠ 0 then l.getD k 0 else orL (l.drop (k + 1)) := by
  rw [List.drop_eq_getElem_cons h, orL, List.getD_eq_getElem?_getD, List.getElem?_eq_getElem h, Option.getD_some]
set_option maxHeartbeats 800000 in
theorem or_any (v : Value) (l : List Int) (w : World) (hv : SliceInt w v l) : Calls Tryz.prog 85 #[v] w fun e w' => e = .returned (.int .i64 (orL l)) ∧ w' = w := by
  obtain ⟨va, vc, rfl, hl, hf⟩ := hv.form
  have hf' := Lib.hid hf
  clear hf hv
  go_enter Tryz.func85, Tryz.ntmps85
  go_wp2_with fail
  go_loop [8] (fun i => ∃ k : Nat, k ≤ l.length ∧ i = .int .i64 k ∧ orL l = orL (l.drop k)) (fun i => l.length - (intOf i).toNat)
  case atStart => exact ⟨0, by omega, rfl, rfl⟩
  case round =>
    obtain ⟨k, hk0, rfl, ho⟩ := hrel
    have ho' := Lib.hid ho
    clear ho
    by_cases hk : k < l.length
    · obtain ⟨bb, o, rfl, hc⟩ := hf'.out k hk
      obtain ⟨z, hz⟩ : ∃ z, z = l.getD k 0 := ⟨_, rfl⟩
      rw [← hz] at hc
      have hd := orL_drop hk
      rw [← hz] at hd
      have hd' := Lib.hid hd
      clear hd hz
      by_cases hz0 : z = 0
      · subst hz0
        have hq : ((0 : Int) != 0) = false := rfl
        go_wp2_with fail
        exact ⟨⟨k + 1, by omega, by go_num, by rw [ho'.out, hd'.out]; simp⟩, by simp [intOf]; omega⟩
      · have hq : (z != 0) = true := by simpa using hz0
        go_wp2_with fail
        go_ret
        exact ⟨ret_int (by rw [ho'.out, hd'.out, if_pos hz0]), rfl⟩
    · go_wp2_with fail
      go_ret
      refine ⟨ret_int ?_, rfl⟩
      rw [ho'.out, List.drop_of_length_le (by omega)]; rfl

theorem grow_three (w : World) (a b c : Obj) : (((w.alloc a).alloc b).drew).alloc c = grow (w.drewN 1) #[a, b, c] := by
  show ({ w with heap := ((w.heap.push a).push b).push c, drawn := w.drawn + 1 } : World) = { w with heap := w.heap ++ #[a, b, c], drawn := w.drawn + 1 }
  congr 1
def cmpK (a b : Key) : Int := orL [Lib.compareInt a.1 b.1, Lib.compareInt a.2.1 b.2.1, Lib.compareBytes a.2.2.data.toList b.2.2.data.toList]
set_option maxRecDepth 100000 in
set_option maxHeartbeats 1600000 in
theorem compare_lit (a1 a2 b1 b2 : Int) (a3 b3 : ByteArray) (w : World) :
    Calls Tryz.prog 63 #[.agg #[.int .i64 a1, .int .i64 a2, .string a3], .agg #[.int .i64 b1, .int .i64 b2, .string b3]] w fun e w' => e = .returned (.int .i64 (cmpK (a1, a2, a3) (b1, b2, b3))) ∧ ∃ q os, w' = grow (w.drewN q) os := by
  obtain ⟨W, hW⟩ : ∃ W, W = (w.alloc (.cells #[.int .i64 a1, .int .i64 a2, .string a3] 64)).alloc (.cells #[.int .i64 b1, .int .i64 b2, .string b3] 64) := ⟨_, rfl⟩
  have r0 : W.heap[w.heap.size]? = some (.cells #[.int .i64 a1, .int .i64 a2, .string a3] 64 (0, 0)) := by rw [hW]; exact heap_alloc2_old _ _ _
  have r1 : W.heap[w.heap.size + 1]? = some (.cells #[.int .i64 b1, .int .i64 b2, .string b3] 64 (0, 0)) := by rw [hW]; exact heap_alloc2_new _ _ _
  have c0 : W.cell? ⟨w.heap.size, 0, none⟩ = some (.int .i64 a1) := by rw [cell_of_row _ _ _ _ _ _ r0]; rfl
  have c1 : W.cell? ⟨w.heap.size, 1, none⟩ = some (.int .i64 a2) := by rw [cell_of_row _ _ _ _ _ _ r0]; rfl
  have c2 : W.cell? ⟨w.heap.size, 2, none⟩ = some (.string a3) := by rw [cell_of_row _ _ _ _ _ _ r0]; rfl
  have d0 : W.cell? ⟨w.heap.size + 1, 0, none⟩ = some (.int .i64 b1) := by rw [cell_of_row _ _ _ _ _ _ r1]; rfl
  have d1 : W.cell? ⟨w.heap.size + 1, 1, none⟩ = some (.int .i64 b2) := by rw [cell_of_row _ _ _ _ _ _ r1]; rfl
  have d2 : W.cell? ⟨w.heap.size + 1, 2, none⟩ = some (.string b3) := by rw [cell_of_row _ _ _ _ _ _ r1]; rfl
  have hk1 := Lib.hid (Tryz.cmp_Compare_int a1 b1)
  have hk2 := Lib.hid (Tryz.cmp_Compare_int a2 b2)
  have hk3 := Lib.hid (Tryz.strings_Compare a3 b3)
  obtain ⟨x, hx⟩ : ∃ x, x = Lib.compareInt a1 b1 := ⟨_, rfl⟩
  obtain ⟨y, hy⟩ : ∃ x, x = Lib.compareInt a2 b2 := ⟨_, rfl⟩
  obtain ⟨z, hz⟩ : ∃ x, x = Lib.compareBytes a3.data.toList b3.data.toList := ⟨_, rfl⟩
  rw [← hx] at hk1
  rw [← hy] at hk2
  rw [← hz] at hk3
  have hor : Hid (orL [x, y, z] = cmpK (a1, a2, a3) (b1, b2, b3)) := by show _ = _; rw [hx, hy, hz]; rfl
  have hW' := Lib.hid hW
  clear hx hy hz r0 r1 hW
  go_enter Tryz.func63, Tryz.ntmps63
  go_wp2_with fail
  rw [← hW'.out]
  refine wp_region_still_tail 15 (by kernel_rfl) (by kernel_rfl) ?_
  simp only [List.take_succ_cons, List.take_zero, List.drop_succ_cons, List.drop_zero]
  repeat still_step
  still_call (hk1.out _)
  repeat still_step
  still_call (hk2.out _)
  repeat still_step
  still_call (hk3.out _)
  repeat still_step
  refine wpStill_nil ?_
  change wpList _ _ _ _ _ W.drew
  obtain ⟨W8, hW8⟩ : ∃ W8, W8 = W.drew := ⟨_, rfl⟩
  rw [← hW8]
  have hW8' := Lib.hid hW8
  clear hW8 c0 c1 c2 d0 d1 d2
  go_wp2_with (go_at_call 85; fail)
  have hsi : SliceInt (W8.alloc (.cells #[.int .i64 x, .int .i64 y, .int .i64 z] 3)) (.slice (some ⟨W8.heap.size, 0, none⟩) 3 3) [x, y, z] := by
    refine Or.inr ⟨W8.heap.size, 0, 3, rfl, ⟨by decide, Nat.le_refl 3⟩, by simp, fun k hk => ?_⟩
    rw [cell_of_row _ _ _ _ _ _ (heap_alloc_new W8 _), Nat.zero_add]
    rcases k with _ | _ | _ | k
    · rfl
    · rfl
    · rfl
    · simp at hk; omega
  refine (or_any _ [x, y, z] _ hsi).mono ?_
  rintro e w9 ⟨rfl, hw9⟩
  obtain rfl := hw9.symm
  rw [hor.out]
  clear hsi
  go_wp2_with fail
  go_ret
  refine ⟨rfl, 1, #[.cells #[.int .i64 a1, .int .i64 a2, .string a3] 64, .cells #[.int .i64 b1, .int .i64 b2, .string b3] 64, .cells #[.int .i64 x, .int .i64 y, .int .i64 z] 3], ?_⟩
  rw [hW8'.out, hW'.out]
  exact grow_three w _ _ _
end Go.Proofs.YtlemadbmlnjhpaaGreatDoor
namespace Go.Proofs.YtlemadbmlnjhpaaGreatDoor
open Go Go.RowKit Go.Proofs
set_option linter.unusedSimpArgs false
set_option linter.unusedVariables false

/-- a comparison that orders totally -/
structure TotC {α : Type} (c : α → α → Int) : Prop where
  eq : ∀ x y, c x y = 0 ↔ x = y
  anti : ∀ x y, c x y < 0 ↔ 0 < c y x
  trans : ∀ x y z, c x y < 0 → c y z < 0 → c x z < 0
theorem totC_int : TotC Lib.compareInt where
  eq x y := by unfold Lib.compareInt; split <;> (try split) <;> omega
  anti x y := by unfold Lib.compareInt; split <;> (try split) <;> (try split) <;> (try split) <;> omega
  trans x y z := by unfold Lib.compareInt; split <;> (try split) <;> (try split) <;> (try split) <;> (try split) <;> (try split) <;> omega
theorem u8_trich (a b : UInt8) : a < b ∨ a = b ∨ b < a := by
  rcases Nat.lt_trichotomy a.toNat b.toNat with h | h | h
  · exact .inl (UInt8.lt_iff_toNat_lt.2 h)
  · exact .inr (.inl (UInt8.toNat_inj.1 h))
  · exact .inr (.inr (UInt8.lt_iff_toNat_lt.2 h))
theorem u8_irrefl (a : UInt8) : ¬ a < a := fun h => Nat.lt_irrefl _ (UInt8.lt_iff_toNat_lt.1 h)
theorem u8_asymm {a b : UInt8} (h : a < b) : ¬ b < a := fun h' => Nat.lt_asymm (UInt8.lt_iff_toNat_lt.1 h) (UInt8.lt_iff_toNat_lt.1 h')
theorem u8_trans {a b c : UInt8} (h : a < b) (h' : b < c) : a < c := UInt8.lt_iff_toNat_lt.2 (Nat.lt_trans (UInt8.lt_iff_toNat_lt.1 h) (UInt8.lt_iff_toNat_lt.1 h'))
theorem cb_eq : ∀ (x y : List UInt8), Lib.compareBytes x y = 0 ↔ x = y
  | [], [] => by simp [Lib.compareBytes]
  | [], _ :: _ => by simp [Lib.compareBytes]
  | _ :: _, [] => by simp [Lib.compareBytes]
  | a :: xs, b :: ys => by
    have ih := cb_eq xs ys
    rw [Lib.compareBytes]
    rcases u8_trich a b with h | rfl | h
    · rw [if_pos h]; exact ⟨fun h' => absurd h' (by decide), fun h' => absurd h (by rw [(List.cons.inj h').1]; exact u8_irrefl _)⟩
    · rw [if_neg (u8_irrefl a), if_neg (u8_irrefl a), ih]; simp
    · rw [if_neg (u8_asymm h), if_pos h]; exact ⟨fun h' => absurd h' (by decide), fun h' => absurd h (by rw [(List.cons.inj h').1]; exact u8_irrefl _)⟩
theorem cb_anti : ∀ (x y : List UInt8), Lib.compareBytes x y < 0 ↔ 0 < Lib.compareBytes y x
  | [], [] => by simp [Lib.compareBytes]
  | [], _ :: _ => by simp [Lib.compareBytes]
  | _ :: _, [] => by simp [Lib.compareBytes]
  | a :: xs, b :: ys => by
    have ih := cb_anti xs ys
    rw [Lib.compareBytes, Lib.compareBytes]
    rcases u8_trich a b with h | rfl | h
    · rw [if_pos h, if_neg (u8_asymm h), if_pos h]; decide
    · rw [if_neg (u8_irrefl a), if_neg (u8_irrefl a), if_neg (u8_irrefl a), if_neg (u8_irrefl a), ih]
    · rw [if_neg (u8_asymm h), if_pos h, if_pos h]; decide
theorem cb_trans : ∀ (x y z : List UInt8), Lib.compareBytes x y < 0 → Lib.compareBytes y z < 0 → Lib.compareBytes x z < 0
  | [], [], z, h, _ => by simp [Lib.compareBytes] at h
  | [], _ :: _, [], _, h => by simp [Lib.compareBytes] at h
  | [], _ :: _, _ :: _, _, _ => by simp [Lib.compareBytes]
  | _ :: _, [], z, h, _ => by simp [Lib.compareBytes] at h
  | _ :: _, _ :: _, [], _, h => by simp [Lib.compareBytes] at h
  | a :: xs, b :: ys, c :: zs, h1, h2 => by
    rw [Lib.compareBytes] at h1 h2 ⊢
    rcases u8_trich a b with h | rfl | h
    · rcases u8_trich b c with k | rfl | k
      · rw [if_pos (u8_trans h k)]; decide
      · rw [if_pos h]; decide
      · rw [if_neg (u8_asymm k), if_pos k] at h2; exact absurd h2 (by decide)
    · rcases u8_trich a c with k | rfl | k
      · rw [if_pos k]; decide
      · rw [if_neg (u8_irrefl a), if_neg (u8_irrefl a)] at h1 h2 ⊢
        exact cb_trans xs ys zs h1 h2
      · rw [if_neg (u8_asymm k), if_pos k] at h2; exact absurd h2 (by decide)
    · rw [if_neg (u8_asymm h), if_pos h] at h1; exact absurd h1 (by decide)
def cbK (x y : ByteArray) : Int := Lib.compareBytes x.data.toList y.data.toList
theorem totC_bytes : TotC cbK where
  eq x y := by
    unfold cbK; rw [cb_eq]
    exact ⟨fun h => bytes_beq_true (by rw [ByteArray.toList_eq, ByteArray.toList_eq, h]; simp), fun h => by rw [h]⟩
  anti x y := cb_anti _ _
  trans x y z := cb_trans _ _ _
theorem totC_lex {α β : Type} {c : α → α → Int} {d : β → β → Int} (hc : TotC c) (hd : TotC d) : TotC (fun (x y : α × β) => if c x.1 y.1 ≠ 0 then c x.1 y.1 else d x.2 y.2) where
  eq x y := by
    by_cases h : c x.1 y.1 = 0
    · simp only [h, ne_eq, not_true_eq_false, if_false]
      rw [hd.eq]
      have := (hc.eq _ _).1 h
      exact ⟨fun h' => Prod.ext this h', fun h' => by rw [h']⟩
    · simp only [ne_eq, h, not_false_eq_true, if_true]
      exact ⟨fun h' => h'.elim, fun h' => absurd ((hc.eq _ _).2 (by rw [h'])) h⟩
  anti x y := by
    by_cases h : c x.1 y.1 = 0
    · have e := (hc.eq _ _).1 h
      have h' : c y.1 x.1 = 0 := (hc.eq _ _).2 e.symm
      simp only [h, h', ne_eq, not_true_eq_false, if_false]
      exact hd.anti _ _
    · have h' : ¬ c y.1 x.1 = 0 := fun h0 => h ((hc.eq _ _).2 ((hc.eq _ _).1 h0).symm)
      simp only [ne_eq, h, h', not_false_eq_true, if_true]
      exact hc.anti _ _
  trans x y z := by
    intro h1 h2
    by_cases hxy : c x.1 y.1 = 0
    · simp only [hxy, ne_eq, not_true_eq_false, if_false] at h1
      have e := (hc.eq _ _).1 hxy
      rw [← e] at h2
      by_cases hyz : c x.1 z.1 = 0
      · simp only [hyz, ne_eq, not_true_eq_false, if_false] at h2 ⊢
        exact hd.trans _ _ _ h1 h2
      · simp only [ne_eq, hyz, not_false_eq_true, if_true] at h2 ⊢
        exact h2
    · simp only [ne_eq, hxy, not_false_eq_true, if_true] at h1
      by_cases hyz : c y.1 z.1 = 0
      · have e := (hc.eq _ _).1 hyz
        rw [← e]
        simp only [ne_eq, hxy, not_false_eq_true, if_true]
        exact h1
      · simp only [ne_eq, hyz, not_false_eq_true, if_true] at h2
        have h3 := hc.trans _ _ _ h1 h2
        have h4 : ¬ c x.1 z.1 = 0 := by omega
        simp only [ne_eq, h4, not_false_eq_true, if_true]
        exact h3
theorem cmpK_lex (x y : Key) : cmpK x y = (fun (x y : Key) => if Lib.compareInt x.1 y.1 ≠ 0 then Lib.compareInt x.1 y.1 else (fun (x y : Int × ByteArray) => if Lib.compareInt x.1 y.1 ≠ 0 then Lib.compareInt x.1 y.1 else cbK x.2 y.2) x.2 y.2) x y := by
  simp only [cmpK, orL, cbK]
  repeat' split
  all_goals first | rfl | (simp_all; done) | omega
theorem totC_key : TotC cmpK := by
  have h := totC_lex totC_int (totC_lex totC_int totC_bytes)
  exact ⟨fun x y => by rw [cmpK_lex]; exact h.eq x y, fun x y => by rw [cmpK_lex, cmpK_lex]; exact h.anti x y, fun x y z => by rw [cmpK_lex, cmpK_lex, cmpK_lex]; exact h.trans x y z⟩
theorem TotC.swo {α : Type} {c : α → α → Int} (h : TotC c) : Go.Sort.SWO (ltOf c) where
  irrefl x := by
    have := (h.eq x x).2 rfl
    simp [ltOf, this]
  trans x y z h1 h2 := by
    simp only [ltOf, decide_eq_true_eq] at *
    exact h.trans _ _ _ h1 h2
  ntrans x y z h1 h2 := by
    simp only [ltOf, decide_eq_false_iff_not] at *
    intro hxz
    by_cases hyx : c y x < 0
    · exact h2 (h.trans _ _ _ hyx hxz)
    · have : c x y = 0 := by have := h.anti y x; omega
      rw [← (h.eq _ _).1 this] at h2
      exact h2 hxz
theorem TotC.total {α : Type} {c : α → α → Int} (h : TotC c) (x y : α) (h1 : ltOf c x y = false) (h2 : ltOf c y x = false) : x = y := by
  simp only [ltOf, decide_eq_false_iff_not] at *
  exact (h.eq _ _).1 (by have := h.anti y x; omega)
end Go.Proofs.YtlemadbmlnjhpaaGreatDoor
namespace Go.Proofs.YtlemadbmlnjhpaaGreatDoor
open Go Go.RowKit Go.Proofs
set_option linter.unusedSimpArgs false
set_option linter.unusedVariables false

def keyCells (k : Key) : List Value := [.int .i64 k.1, .int .i64 k.2.1, .string k.2.2]
theorem cmp_lays (blk off size : Nat) (w : World) : CmpLays Tryz.prog 63 #[] keyCells 3 cmpK blk off size w := fun m os dk hs x y =>
  compare_lit x.1 x.2.1 y.1 y.2.1 x.2.2 y.2.2 _
theorem compare_enters : ∀ (args : Array Value) (w : World), Sem.run Tryz.prog (callFunc 63 args) w = Result.ok (Next.enter 63 args) w :=
  enters_of Tryz.func63 (by kernel_rfl) rfl
end Go.Proofs.YtlemadbmlnjhpaaGreatDoor
