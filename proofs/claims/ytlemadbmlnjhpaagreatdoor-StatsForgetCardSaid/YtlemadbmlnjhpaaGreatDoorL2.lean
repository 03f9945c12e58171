/- The model's sizes. -/
import Derived.Test.YtlemadbmlnjhpaaGreatDoorL1
namespace Go.Proofs.YtlemadbmlnjhpaaGreatDoor
open Go Go.RowKit Go.Proofs
set_option linter.unusedSimpArgs false
set_option linter.unusedVariables false

theorem bitLen_iff (n : Nat) (h : n < 2 ^ 64) (k : Nat) : k < Lib.bitLen n ↔ 0 < n / 2 ^ k := by
  have key : ∀ (f n k : Nat), n < 2 ^ f → (k < Lib.bitLenAux f n ↔ 0 < n / 2 ^ k) := by
    intro f
    induction f with
    | zero => intro n k hn; simp at hn; subst hn; simp [Lib.bitLenAux]
    | succ f ih =>
      intro n k hn
      unfold Lib.bitLenAux
      split
      · rename_i h0; subst h0; simp
      · rename_i h0
        cases k with
        | zero => simp; omega
        | succ k =>
          have := ih (n / 2) k (by rw [Nat.pow_succ] at hn; omega)
          rw [Nat.pow_succ, Nat.mul_comm, ← Nat.div_div_eq_div_mul]
          rw [← this]; omega
  exact key 64 n k h
/-- the sizes of events -/
def szM (es : List Ev) : List Int := es.foldl (fun zs e => incZ zs e.b) noSizes
theorem szM_snoc (es : List Ev) (e : Ev) : szM (es ++ [e]) = incZ (szM es) e.b := by simp [szM]
theorem addsZ_szM (es : List Ev) : addsZ noSizes es = szM (okEvs es) := by
  have key : ∀ (es : List Ev) (zs : List Int), addsZ zs es = (okEvs es).foldl (fun zs e => incZ zs e.b) zs := by
    intro es
    induction es with
    | nil => intro zs; rfl
    | cons e r ih =>
      intro zs
      rw [show addsZ zs (e :: r) = addsZ (addZ zs e.mi e.gs e.ss e.b) r from rfl, ih]
      by_cases he : e.err = 0
      · have he' : evErr e.mi e.gs e.ss e.b = 0 := he
        have h1 : okEvs (e :: r) = e :: okEvs r := by unfold okEvs; rw [List.filter_cons, if_pos (by simpa using he)]
        rw [h1, addZ, if_pos he', List.foldl_cons]
      · have he' : ¬ evErr e.mi e.gs e.ss e.b = 0 := he
        have h1 : okEvs (e :: r) = okEvs r := by unfold okEvs; rw [List.filter_cons, if_neg (by simpa using he)]
        rw [h1, addZ, if_neg he']
  exact key es noSizes

/-- the state of the model's loop -/
structure SzAt (w wr : World) (zs : List Int) : Prop where
  res : wr.heap[w.heap.size]? = some (.cells (noSizes.map (Value.int .i64)).toArray 41 (0, 0))
  out : wr.heap[w.heap.size + 1]? = some (.cells (zs.map (Value.int .i64)).toArray 41 (0, 0))
  len : zs.length = 18
  bel : Below w.heap.size w wr
theorem szM_len : ∀ (es : List Ev), (szM es).length = 18 := by
  have key : ∀ (es : List Ev) (zs : List Int), (es.foldl (fun zs e => incZ zs e.b) zs).length = zs.length := by
    intro es
    induction es with
    | nil => intro zs; rfl
    | cons e r ih => intro zs; rw [List.foldl_cons, ih, incZ, List.length_set]
  intro es
  rw [szM, key]; rfl

set_option maxRecDepth 100000 in
set_option maxHeartbeats 3200000 in
theorem sizesM_any (v : Value) (es : List Ev) (w : World) (hv : SliceEv w v es) (hok : ∀ e ∈ es, e.err = 0) (hl : es.length ≤ 1000) :
    Calls Tryz.prog 17 #[v] w fun e w' => e = .returned (.agg ((szM es).map (Value.int .i64)).toArray) ∧ Below w.heap.size w w' := by
  obtain ⟨va, vc, rfl, _, hvf⟩ := hv.form
  clear hvf
  have hv' := Lib.hid hv
  have hok' := Lib.hid hok
  clear hv hok
  go_enter Tryz.func17, Tryz.ntmps17
  go_wp2_with fail
  have h0 : SzAt w ((w.alloc (.cells #[.int .i64 0, .int .i64 0, .int .i64 0, .int .i64 0, .int .i64 0, .int .i64 0, .int .i64 0, .int .i64 0, .int .i64 0, .int .i64 0, .int .i64 0, .int .i64 0, .int .i64 0, .int .i64 0, .int .i64 0, .int .i64 0, .int .i64 0, .int .i64 0] 41)).alloc (.cells #[.int .i64 0, .int .i64 0, .int .i64 0, .int .i64 0, .int .i64 0, .int .i64 0, .int .i64 0, .int .i64 0, .int .i64 0, .int .i64 0, .int .i64 0, .int .i64 0, .int .i64 0, .int .i64 0, .int .i64 0, .int .i64 0, .int .i64 0, .int .i64 0] 41)) (szM []) := ⟨heap_alloc2_old _ _ _, heap_alloc2_new _ _ _, rfl, ((Below.refl _ _).alloc (Nat.le_refl _) _).alloc (by simp) _⟩
  have h0' := Lib.hid h0
  clear h0
  go_loopw [4] (fun i wr => ∃ k : Nat, k ≤ es.length ∧ i = .int .i64 k ∧ SzAt w wr (szM (es.take k)) ∧ SzN (szM (es.take k)) k) (fun i _ => es.length - (intOf i).toNat)
  case atStart => exact ⟨0, by omega, rfl, h0'.out, sz_none⟩
  case round =>
    obtain ⟨k, hk0, rfl, hA, hN⟩ := hrel
    by_cases hk : k < es.length
    · obtain ⟨ev, hev⟩ : ∃ e, es[k]? = some e := ⟨_, List.getElem?_eq_getElem hk⟩
      obtain ⟨_, eb1, eb2⟩ := Ev.ok (hok'.out ev (List.mem_of_getElem? hev))
      obtain ⟨va', vc', hform, _, hvf⟩ := hv'.out.form
      cases hform
      obtain ⟨bb, o, cs, rfl, hrg0, hea⟩ := hvf k ev hev
      have hcs : cs[19]? = some (.int .i64 ev.b) := by
        obtain ⟨v1, v2, v3, v4, v5, v6, v7, v8, v9, v10, v11, v12, v13, v14, v15, v16, g, sv, e, _⟩ := hea; rw [e]; rfl
      have hc0 := hrg0 19 _ hcs
      have hbb0 : bb < w.heap.size := World.block_lt_of_cell? w _ hc0
      have hnext : Hid (szM (es.take (k + 1)) = incZ (szM (es.take k)) ev.b) := by show _ = _; rw [take_some hev, szM_snoc]
      obtain ⟨b, hb⟩ : ∃ b, b = ev.b := ⟨_, rfl⟩
      rw [← hb] at hc0 eb1 eb2 hnext
      have hc : wr.cell? ⟨bb, o + k * 20 + 19, none⟩ = some (.int .i64 b) := (hA.bel.cell (p := ⟨bb, _, none⟩) hbb0).trans hc0
      obtain ⟨zs, hzs⟩ : ∃ zs, zs = szM (es.take k) := ⟨_, rfl⟩
      rw [← hzs] at hA hN hnext
      have hA' := Lib.hid hA
      have hN' := Lib.hid hN
      clear hA hN hzs hb hrg0 hea hcs hc0 hvf hev
      go_wp2_with fail
      go_loop [5] (fun i => ∃ j : Nat, j ≤ Lib.bitLen b.toNat ∧ i = .int .i64 j) (fun i => 64 - (intOf i).toNat)
      case atStart => exact ⟨0, by omega, rfl⟩
      case round =>
        obtain ⟨j, hj0, rfl⟩ := hrel
        have hb17 : Lib.bitLen b.toNat ≤ 17 := bitLen_le _ (by omega)
        have hmin : min j 64 = j := by omega
        have hdiv : b / 2 ^ j = ((b.toNat / 2 ^ j : Nat) : Int) := by
          rw [Int.natCast_ediv, Int.toNat_of_nonneg eb1]; simp
        have hiff := bitLen_iff b.toNat (by omega) j
        by_cases hj : j < Lib.bitLen b.toNat
        · have hq : 0 < b / 2 ^ j := by rw [hdiv]; have := hiff.1 hj; omega
          clear hiff hdiv hmin
          go_wp2_with fail
          exact ⟨⟨j + 1, by omega, by go_num⟩, by simp [intOf]; omega⟩
        · have hq : b / 2 ^ j ≤ 0 := by rw [hdiv]; have := fun h => hj (hiff.2 h); omega
          obtain rfl : j = Lib.bitLen b.toNat := by omega
          obtain ⟨n, hn⟩ : ∃ n, n = Lib.bitLen b.toNat := ⟨_, rfl⟩
          rw [← hn] at hq hb17
          rw [← hn]
          have hzl := hA'.out.len
          obtain ⟨z, hzn⟩ : ∃ z, z = zs.getD n 0 := ⟨_, rfl⟩
          have hzb : 0 ≤ z ∧ z ≤ k := by
            have hm : z ∈ zs := by rw [hzn, List.getD_eq_getElem?_getD, List.getElem?_eq_getElem (by omega), Option.getD_some]; exact List.getElem_mem _
            exact hN'.out z hm
          have q2 : wr.cell? ⟨w.heap.size + 1, n, none⟩ = some (.int .i64 z) := by
            rw [cell_of_row _ _ _ _ _ _ hA'.out.out, hzn]
            simp [List.getD_eq_getElem?_getD, show n < zs.length by omega]
          have q3 : wr.frozen? ⟨w.heap.size + 1, n, none⟩ = false := frozen_of_row _ _ _ _ _ hA'.out.out
          have hx0 : (0 : Int) ≤ (n : Int) := by omega
          have hx1 : (n : Int) < 18 := by omega
          obtain ⟨hz1, hz2⟩ := hzb
          have hn' := Lib.hid hn
          have hzn' := Lib.hid hzn
          have hzl' := Lib.hid hzl
          clear hn hzn hzl hiff hdiv hmin hj hj0
          go_wp2_with fail
          refine ⟨⟨k + 1, by omega, by go_num, ?_, ?_⟩, by simp [intOf]; omega⟩
          · rw [hnext.out, incZ, ← hn'.out, ← hzn'.out]
            refine ⟨?_, ?_, by rw [List.length_set]; exact hzl'.out, hA'.out.bel.setCell (by simp) _⟩
            · rw [heap_setCell_other _ _ _ _ (by simp)]; exact hA'.out.res
            · rw [heap_setCell_same _ _ _ _ _ _ hA'.out.out]
              congr 2
              simp [List.map_set]
          · rw [hnext.out, incZ, ← hn'.out, ← hzn'.out]
            intro y hy
            rcases List.mem_or_eq_of_mem_set hy with hy | rfl
            · have := hN'.out y hy; omega
            · omega
    · obtain rfl : k = es.length := by omega
      rw [List.take_length] at hA
      have hone : ((szM es).map (Value.int .i64)).toArray.all (·.oneCell') = true := all_oneCell_toArray fun v hv => by
        obtain ⟨x, _, rfl⟩ := List.mem_map.1 hv; rfl
      have hl18 : ((szM es).map (Value.int .i64)).length = 18 := by rw [List.length_map]; exact szM_len es
      have hs1 : (Tryz.prog.info? 41).map (·.size) = some ((szM es).map (Value.int .i64)).length := by rw [hl18]; exact Tryz.sizeArr
      have hs2 : (Tryz.prog.info? 41).map (·.size) = some ((szM es).map (Value.int .i64)).toArray.size := by rw [List.size_toArray, hl18]; exact Tryz.sizeArr
      have hrow : wr.rangeAt (w.heap.size + 1) 0 ((szM es).map (Value.int .i64)) := fun j v hj => by
        rw [cell_of_row _ _ _ _ _ _ hA.out, List.getElem?_toArray, Nat.zero_add]; exact hj
      have hth : wr.there w.heap.size 0 ((szM es).map (Value.int .i64)).toArray.size := by
        intro j hj
        rw [List.size_toArray, hl18] at hj
        refine ⟨?_, frozen_of_row _ _ _ _ _ hA.res⟩
        rw [cell_of_row _ _ _ _ _ _ hA.res, Nat.zero_add, Array.getElem?_eq_getElem (by simpa [noSizes] using hj)]; rfl
      have hres : (loadVar 41 ⟨w.heap.size, 0, none⟩).run Tryz.prog (wr.setCells w.heap.size 0 ((szM es).map (Value.int .i64)).toArray.toList) = .ok (.agg ((szM es).map (Value.int .i64)).toArray) (wr.setCells w.heap.size 0 ((szM es).map (Value.int .i64)).toArray.toList) :=
        run_loadVar_mid _ _ _ _ _ _ (by rw [List.toList_toArray]; exact World.rangeAt_setCells_same wr w.heap.size 0 _ (by simpa using hth)) Tryz.underlying41 rfl hs1
      have hbf : Below w.heap.size w (wr.setCells w.heap.size 0 ((szM es).map (Value.int .i64)).toArray.toList) := below_setCellsK (Nat.le_refl _) _ _ hA.bel
      obtain ⟨cs, hcs⟩ : ∃ cs, cs = (szM es).map (Value.int .i64) := ⟨_, rfl⟩
      rw [← hcs] at hone hs1 hs2 hrow hth hres hbf
      have hone' := Lib.hid hone
      have hs1' := Lib.hid hs1
      have hs2' := Lib.hid hs2
      have hrow' := Lib.hid hrow
      have hth' := Lib.hid hth
      have hres' := Lib.hid hres
      have hbf' := Lib.hid hbf
      have hcs' := Lib.hid hcs
      clear hone hs1 hs2 hrow hth hres hbf hl18 hA hN hcs
      go_wp2_with (first | (refine wpList_load_mid rfl 41 _ rfl (w.heap.size + 1) 0 rfl _ _ hrow'.out Tryz.underlying41 rfl hs1'.out ?_) | (refine wpList_store_mid rfl 41 _ _ rfl w.heap.size 0 _ rfl rfl hth'.out hs2'.out hone'.out ?_))
      exact bodyPost_ret (v := .agg cs.toArray) (results_cell_load Tryz.results17 _ _ _ _ rfl hres'.out) rfl ⟨by rw [hcs'.out], hbf'.out⟩
end Go.Proofs.YtlemadbmlnjhpaaGreatDoor
