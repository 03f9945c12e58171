/- The model's days. -/
import Derived.Test.YtlemadbmlnjhpaaGreatDoorLA
namespace Go.Proofs.YtlemadbmlnjhpaaGreatDoor
open Go Go.RowKit Go.Proofs
set_option linter.unusedSimpArgs false
set_option linter.unusedVariables false

/-- one behind the last number that is less than d -/
def atD (d : Int) (l : List Int) : Nat := (l.foldl (fun (p : Nat × Nat) x => (p.1 + 1, if x < d then p.1 + 1 else p.2)) (0, 0)).2
theorem atD_fst (d : Int) (l : List Int) : ∀ p : Nat × Nat, (l.foldl (fun (p : Nat × Nat) x => (p.1 + 1, if x < d then p.1 + 1 else p.2)) p).1 = p.1 + l.length := by
  induction l with
  | nil => intro p; rfl
  | cons x r ih => intro p; rw [List.foldl_cons, ih]; simp; omega
theorem atD_snoc (d x : Int) (l : List Int) : atD d (l ++ [x]) = if x < d then l.length + 1 else atD d l := by
  unfold atD
  rw [List.foldl_append]
  have h := atD_fst d l (0, 0)
  simp only [List.foldl_cons, List.foldl_nil, h, Nat.zero_add]
theorem atD_le (d : Int) : ∀ (n : Nat) (l : List Int), l.length = n → atD d l ≤ l.length
  | 0, l, h => by rw [List.eq_nil_of_length_eq_zero h]; exact Nat.le_refl _
  | n + 1, l, h => by
    obtain ⟨xs, e, rfl⟩ : ∃ xs e, l = xs ++ [e] := ⟨l.dropLast, l.getLast (by intro h0; subst h0; simp at h), (List.dropLast_concat_getLast _).symm⟩
    have ih := atD_le d n xs (by simpa using h)
    rw [atD_snoc]
    split <;> simp <;> omega
def insD (l : List Int) (d : Int) : List Int := if l.any (· == d) then l else l.take (atD d l) ++ [d] ++ l.drop (atD d l)
theorem insD_len (l : List Int) (d : Int) : (insD l d).length ≤ l.length + 1 := by
  unfold insD
  split
  · omega
  · simp; omega
def daysM (es : List Ev) : List Int := es.foldl (fun l e => insD l (e.mi / 1440)) []
theorem daysM_snoc (es : List Ev) (e : Ev) : daysM (es ++ [e]) = insD (daysM es) (e.mi / 1440) := by simp [daysM]
theorem daysM_len : ∀ (n : Nat) (es : List Ev), es.length = n → (daysM es).length ≤ n
  | 0, l, h => by rw [List.eq_nil_of_length_eq_zero h]; exact Nat.le_refl _
  | n + 1, l, h => by
    obtain ⟨xs, e, rfl⟩ : ∃ xs e, l = xs ++ [e] := ⟨l.dropLast, l.getLast (by intro h0; subst h0; simp at h), (List.dropLast_concat_getLast _).symm⟩
    have ih := daysM_len n xs (by simpa using h)
    have := insD_len (daysM xs) (e.mi / 1440)
    rw [daysM_snoc]; omega

structure MDaysAt (w wr : World) (zs : List Int) (v : Value) : Prop where
  own : wr.ownsRow w.heap.size 3 1 v (zs.map (Value.int .i64)).length (zs.map (Value.int .i64))
  bel : Below w.heap.size w wr
theorem own_zs {W : World} {base : Nat} {v : Value} {zs : List Int} (h : W.ownsRow base 3 1 v (zs.map (Value.int .i64)).length (zs.map (Value.int .i64))) : W.ownsRow base 3 1 v zs.length (zs.map (Value.int .i64)) := by simpa using h
theorem MDaysAt.ins {w w1 wE : World} {zs : List Int} {v vE : Value} {d : Int} {k : Nat} (h : MDaysAt w w1 zs v) (h0 : false = zs.any (· == d)) (hk : k = atD d zs) (hkl : k ≤ zs.length)
    (ho : wE.ownsRow w1.heap.size 3 1 vE (0 + k + 1 + (zs.length - k)) ([] ++ (zs.map (Value.int .i64)).take k ++ [.int .i64 d] ++ (zs.map (Value.int .i64)).drop k)) (hb : Below w1.heap.size w1 wE) : MDaysAt w wE (insD zs d) vE := by
  refine ⟨?_, h.bel.trans (hb.mono h.bel.size)⟩
  have e : (insD zs d).map (Value.int .i64) = [] ++ (zs.map (Value.int .i64)).take k ++ [.int .i64 d] ++ (zs.map (Value.int .i64)).drop k := by
    rw [insD, ← h0, if_neg (by simp), ← hk]
    simp [List.map_take, List.map_drop]
  have e2 : ((insD zs d).map (Value.int .i64)).length = 0 + k + 1 + (zs.length - k) := by rw [e]; simp; omega
  rw [e2, e]
  exact ownsRow_base_a ho h.bel.size
theorem run_slice_hi {P : Program} (W : World) (t : TypeId) (ht : P.underlying t = some (.slice (P.elem t))) (hz : ∀ w, (Go.sizeOf (P.elem t)).run P w = .ok 1 w) (A : Option Addr) (n c k : Nat) (hk : k ≤ c) :
    (Instr.slice t (.slice A n c) none (some (.int .i64 k)) none).run P W = .ok (sliced A 0 k c 1) W := by
  rw [run_slice_h W t A n c ht .i64 k (by omega) (by omega), hz]
  simp [Result.andThen]
theorem run_slice_lo {P : Program} (W : World) (t : TypeId) (ht : P.underlying t = some (.slice (P.elem t))) (hz : ∀ w, (Go.sizeOf (P.elem t)).run P w = .ok 1 w) (A : Option Addr) (n c k : Nat) (hk : k ≤ n) :
    (Instr.slice t (.slice A n c) (some (.int .i64 k)) none none).run P W = .ok (sliced A k n c 1) W := by
  rw [run_slice_l W t A n c ht .i64 k (by omega) (by omega), hz]
  simp [Result.andThen]
set_option maxRecDepth 100000 in
set_option maxHeartbeats 3200000 in
theorem mdays_any (v : Value) (es : List Ev) (w : World) (hv : SliceEv w v es) (hok : ∀ e ∈ es, e.err = 0) (hl : es.length ≤ 1000) :
    Calls Tryz.prog 15 #[v] w fun e w' => ∃ u, e = .returned u ∧ SliceInt w' u (daysM es) ∧ Below w.heap.size w w' := by
  obtain ⟨i0, hi, hz0, hz1, hz2⟩ := info_parts Tryz.infoInt
  obtain ⟨va, vc, rfl, _, hvf⟩ := hv.form
  clear hvf
  have hv' := Lib.hid hv
  have hok' := Lib.hid hok
  have hi' := Lib.hid hi
  have hz0' := Lib.hid hz0
  have hz1' := Lib.hid hz1
  have hz2' := Lib.hid hz2
  clear hv hok hi hz0 hz1 hz2
  go_enter Tryz.func15, Tryz.ntmps15
  go_wp2_with fail
  go_loopw [3, 4] (fun u i wr => ∃ k : Nat, k ≤ es.length ∧ i = .int .i64 k ∧ MDaysAt w wr (daysM (es.take k)) u) (fun _ i _ => es.length - (intOf i).toNat)
  case atStart => exact ⟨0, by omega, rfl, ⟨World.ownsRow_nil _ _ _ _, Below.refl _ _⟩⟩
  case round =>
    obtain ⟨k, hk0, rfl, hA⟩ := hrel
    by_cases hk : k < es.length
    · obtain ⟨ev, hev⟩ : ∃ e, es[k]? = some e := ⟨_, List.getElem?_eq_getElem hk⟩
      obtain ⟨⟨em1, em2⟩, _, _⟩ := Ev.ok (hok'.out ev (List.mem_of_getElem? hev))
      obtain ⟨va', vc', hform, _, hvf⟩ := hv'.out.form
      cases hform
      obtain ⟨bb, o, cs, rfl, hrg0, hea⟩ := hvf k ev hev
      obtain ⟨v1, v2, v3, v4, v5, v6, v7, v8, v9, v10, v11, v12, v13, v14, v15, v16, g, sv, rfl, hau, hg, hs, _, _⟩ := hea
      have hbb : bb < w.heap.size := World.block_lt_of_cell? w _ (hrg0 0 _ rfl)
      have hrg : wr.rangeAt bb (o + k * 20) [.int .i64 ev.mi, v1, v2, v3, v4, v5, v6, v7, v8, v9, v10, v11, v12, v13, v14, v15, v16, g, sv, .int .i64 ev.b] := fun j v hj => (hA.bel.cell (p := ⟨bb, _, none⟩) hbb).trans (hrg0 j v hj)
      have hnext : Hid (daysM (es.take (k + 1)) = insD (daysM (es.take k)) (ev.mi / 1440)) := by show _ = _; rw [take_some hev, daysM_snoc]
      have hzl : (daysM (es.take k)).length ≤ 1000 := by
        have h1 := daysM_len _ (es.take k) rfl
        simp at h1
        omega
      obtain ⟨mi, hmi⟩ : ∃ x, x = ev.mi := ⟨_, rfl⟩
      obtain ⟨b, hb⟩ : ∃ x, x = ev.b := ⟨_, rfl⟩
      rw [← hmi] at em1 em2 hrg hnext
      rw [← hb] at hrg
      have hd := fun W => mday_lit mi b v1 v2 v3 v4 v5 v6 v7 v8 v9 v10 v11 v12 v13 v14 v15 v16 g sv W em1 em2
      obtain ⟨d, hd0⟩ : ∃ x, x = mi / 1440 := ⟨_, rfl⟩
      rw [← hd0] at hd hnext
      obtain ⟨zs, hzs⟩ : ∃ zs, zs = daysM (es.take k) := ⟨_, rfl⟩
      rw [← hzs] at hA hnext hzl
      have hA' := Lib.hid hA
      have hrg' := Lib.hid hrg
      have hd' := Lib.hid hd
      clear hA hrg hrg0 hvf hev hzs hd0 hmi hb hau hg hs hd
      go_wp2_with (first | (refine wpList_load_mid rfl 27 _ rfl bb (o + k * 20) rfl _ _ hrg'.out Tryz.underlying27 rfl rfl ?_))
      go_at_call 34
      refine (hd'.out _).mono ?_
      rintro e w1 ⟨rfl, hb1⟩
      have hA1 : MDaysAt w w1 zs u3 := ⟨by
        have h1 := hA'.out.own
        exact ownsRow_block h1 fun g _ hg => hb1.block g hg, hA'.out.bel.trans (hb1.mono hA'.out.bel.size)⟩
      have hA1' := Lib.hid hA1
      obtain ⟨A, c, rfl, _, hcell⟩ := (own_sliceInt (own_zs hA1.own) (by omega)).form
      have hcell' := Lib.hid hcell
      clear hb1 hA1 hcell
      go_wp2_with fail
      go_loop [6, 7, 8] (fun at_ kn i => ∃ j : Nat, j ≤ zs.length ∧ i = .int .i64 j ∧ at_ = .int .i64 (atD d (zs.take j)) ∧ kn = .bool ((zs.take j).any (· == d))) (fun _ _ i => zs.length - (intOf i).toNat)
      case atStart => exact ⟨0, by omega, rfl, rfl, rfl⟩
      case round =>
        obtain ⟨j, hj0, rfl, rfl, rfl⟩ := hrel
        by_cases hj : j < zs.length
        · obtain ⟨bd, od, rfl, hc⟩ := hcell'.out j hj
          obtain ⟨x, hx⟩ : ∃ x, x = zs.getD j 0 := ⟨_, rfl⟩
          have htk : zs.take (j + 1) = zs.take j ++ [x] := by rw [hx]; exact take_getD hj
          have hn1 : Hid (atD d (zs.take (j + 1)) = if x < d then j + 1 else atD d (zs.take j)) := by show _ = _; rw [htk, atD_snoc, List.length_take, Nat.min_eq_left hj0]
          have hn2 : Hid ((zs.take (j + 1)).any (· == d) = ((zs.take j).any (· == d) || (x == d))) := by show _ = _; rw [htk, List.any_append]; simp
          rw [← hx] at hc
          have hat := atD_le d _ (zs.take j) rfl
          have hat2 : atD d (zs.take j) ≤ 1000 := by simp at hat; omega
          obtain ⟨at0, hat0⟩ : ∃ a, a = atD d (zs.take j) := ⟨_, rfl⟩
          obtain ⟨kn0, hkn0⟩ : ∃ a, a = (zs.take j).any (· == d) := ⟨_, rfl⟩
          rw [← hat0] at hn1 hat2
          rw [← hkn0] at hn2
          rw [← hat0, ← hkn0]
          clear hat hx htk hat0 hkn0
          by_cases hlt : x < d
          · have hne : (x == d) = false := beq_eq_false_iff_ne.2 (by omega)
            rw [if_pos hlt] at hn1
            rw [hne] at hn2
            cases kn0
            all_goals
              go_wp2_with fail
              exact ⟨⟨j + 1, by omega, by go_num, by rw [hn1.out]; go_num, by rw [hn2.out]; rfl⟩, by simp [intOf]; omega⟩
          · rw [if_neg hlt] at hn1
            by_cases hxd : x = d
            · subst hxd
              have hq : (x == x) = true := by simp
              rw [hq] at hn2
              cases kn0
              all_goals
                go_wp2_with fail
                exact ⟨⟨j + 1, by omega, by go_num, by rw [hn1.out], by rw [hn2.out]; rfl⟩, by simp [intOf]; omega⟩
            · have hne : (x == d) = false := beq_eq_false_iff_ne.2 hxd
              rw [hne] at hn2
              cases kn0
              all_goals
                go_wp2_with fail
                exact ⟨⟨j + 1, by omega, by go_num, by rw [hn1.out], by rw [hn2.out]; rfl⟩, by simp [intOf]; omega⟩
        · obtain rfl : j = zs.length := by omega
          rw [List.take_length]
          have hat := atD_le d _ zs rfl
          obtain ⟨at0, hat0⟩ : ∃ a, a = atD d zs := ⟨_, rfl⟩
          obtain ⟨kn0, hkn0⟩ : ∃ a, a = zs.any (· == d) := ⟨_, rfl⟩
          rw [← hat0] at hat
          rw [← hat0, ← hkn0]
          have hat0' := Lib.hid hat0
          have hkn0' := Lib.hid hkn0
          clear hat0 hkn0
          cases kn0
          · obtain ⟨A', n', c', hform2, hn', hcn, hcm, hs1, hs2⟩ := sliced_src hA1'.out.own (k := at0) (by simpa using hat)
            cases hform2
            have hr1 := fun W => run_slice_hi (P := Tryz.prog) W 38 (by kernel_rfl) (fun w => by kernel_rfl) A zs.length c at0 (by omega)
            have hr2 := fun W => run_slice_lo (P := Tryz.prog) W 38 (by kernel_rfl) (fun w => by kernel_rfl) A zs.length c at0 (by omega)
            obtain ⟨U1, hU1⟩ : ∃ U, U = sliced A 0 at0 c 1 := ⟨_, rfl⟩
            obtain ⟨U2, hU2⟩ : ∃ U, U = sliced A at0 zs.length c 1 := ⟨_, rfl⟩
            rw [← hU1] at hr1 hs1
            rw [← hU2] at hr2 hs2
            have hs1' := Lib.hid hs1
            have hs2' := Lib.hid hs2
            have hhat := Lib.hid hat
            clear hs1 hs2 hU1 hU2 hcn hcm hn' hat
            go_wp2_with fail
            have hone1 : ∀ u ∈ (zs.map (Value.int .i64)).take at0, u.oneCell' = true := fun u hu => by
              obtain ⟨x, _, rfl⟩ := List.mem_map.1 (List.mem_of_mem_take hu); rfl
            have hone2 : ∀ u ∈ (zs.map (Value.int .i64)).drop at0, u.oneCell' = true := fun u hu => by
              obtain ⟨x, _, rfl⟩ := List.mem_map.1 (List.mem_of_mem_drop hu); rfl
            have hone1' := Lib.hid hone1
            have hone2' := Lib.hid hone2
            clear hone1 hone2
            go_region_held3 (fun W' => Below w1.heap.size w1 W') (first | assumption | exact (Below.refl _ _).drew | exact Below.alloc (by assumption) (Below.size (by assumption)) _)
              (first
                | ((refine step_append_bel (o := ⟨some 49, _, _, _, _, _⟩) _ (by rfl) _ _ 38 (by rfl) w1 (by assumption) 3 i0 _ 1 8 Tryz.underlying38 hi'.out hz0'.out hz1'.out hz2'.out rfl (by omega) _ 0 [] (by rfl) (own_empty (by first | exact heap_alloc2_new _ _ _ | exact heap_alloc2_old _ _ _ | exact heap_alloc_new _ _) (by first | exact Nat.le_refl _ | omega)) U1 at0 _ (by rfl) (hs1'.out.below (by assumption)) hone1'.out (by have := hhat.out; omega) (by omega) ?_; intro vB wB hownB hbB hgB hatB))
                | ((refine step_append_bel (o := ⟨some 52, _, _, _, _, _⟩) _ (by rfl) _ _ 38 (by rfl) w1 (by assumption) 3 i0 _ 1 8 Tryz.underlying38 hi'.out hz0'.out hz1'.out hz2'.out rfl (by omega) vB (0 + at0) _ (by rfl) (by first | exact hownB | exact hownB.alloc _) _ 1 [.int .i64 d] (by rfl) (by first | exact src_block (heap_alloc_new _ _) rfl | exact src_block ((hgB.block _ (by simp) (by simp [Value.ownBlock])).trans (heap_alloc2_new _ _ _)) rfl | exact src_block ((hgB.block _ (by simp <;> omega) (by simp [Value.ownBlock])).trans (heap_alloc2_old _ _ _)) rfl) (by simp [Value.oneCell']) (by have := hhat.out; omega) (by omega) ?_; intro vD wD hownD hbD hgD hatD))
                | ((refine step_append_bel (o := ⟨some 56, _, _, _, _, _⟩) _ (by rfl) _ _ 38 (by rfl) w1 (by assumption) 3 i0 _ 1 8 Tryz.underlying38 hi'.out hz0'.out hz1'.out hz2'.out rfl (by omega) vD (0 + at0 + 1) _ (by rfl) hownD U2 (zs.length - at0) _ (by rfl) (hs2'.out.below (by assumption)) hone2'.out (by have := hhat.out; omega) (by omega) ?_; intro vE wE hownE hbE hgE hatE)))
            all_goals
              go_wp2_with fail
              refine ⟨⟨k + 1, by omega, by go_num, ?_⟩, by simp [intOf]; omega⟩
              rw [hnext.out]
              exact MDaysAt.ins hA1'.out hkn0'.out hat0'.out hhat.out hownE hbE
          · go_wp2_with fail
            refine ⟨⟨k + 1, by omega, by go_num, ?_⟩, by simp [intOf]; omega⟩
            rw [hnext.out, insD, ← hkn0'.out, if_pos rfl]
            exact hA1'.out
    · obtain rfl : k = es.length := by omega
      rw [List.take_length] at hA
      have hzl := daysM_len _ es rfl
      have hA' := Lib.hid hA
      clear hA
      go_wp2_with fail
      go_ret
      exact ⟨_, rfl, own_sliceInt (own_zs hA'.out.own) (by omega), hA'.out.bel⟩
end Go.Proofs.YtlemadbmlnjhpaaGreatDoor
