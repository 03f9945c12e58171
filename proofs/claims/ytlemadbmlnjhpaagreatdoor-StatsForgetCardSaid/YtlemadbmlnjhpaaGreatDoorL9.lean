/- Days: the days of the keys of all articles, in order. -/
import Derived.Test.YtlemadbmlnjhpaaGreatDoorL8
namespace Go.Proofs.YtlemadbmlnjhpaaGreatDoor
open Go Go.RowKit Go.Proofs
set_option linter.unusedSimpArgs false
set_option linter.unusedVariables false

theorem own_sliceInt {w : World} {base : Nat} {e : TypeId} {v : Value} {zs : List Int} (h : w.ownsRow base e 1 v zs.length (zs.map (Value.int .i64))) (hl : zs.length ≤ 1000000) : SliceInt w v zs := by
  rcases h.2 with ⟨rfl, h0⟩ | ⟨g, cap, cur, rfl, hb', hg, h4, h5, h6, h7⟩
  · exact .inl ⟨none, 0, rfl, List.eq_nil_of_length_eq_zero h0⟩
  · refine .inr ⟨g, 0, cap, rfl, ⟨by unfold maxLen at h5; omega, h4⟩, (Array.getElem?_eq_some_iff.1 hg).1, fun j hj => ?_⟩
    rw [Nat.zero_add, h.cellAt j (by omega)]
    simp [List.getElem?_eq_getElem hj]
def dayL (ks : List Key) : List Int := (ks.filter fun k => k.2.1 == 0).map fun k => k.1
theorem dayL_snoc (ks : List Key) (x : Key) : dayL (ks ++ [x]) = if x.2.1 = 0 then dayL ks ++ [x.1] else dayL ks := by
  unfold dayL
  rw [List.filter_append]
  by_cases h : x.2.1 = 0 <;> simp [h]
theorem dayL_len (ks : List Key) : (dayL ks).length ≤ ks.length := by unfold dayL; rw [List.length_map]; exact List.length_filter_le _ _
theorem Tryz.infoInt : (Tryz.prog.info? 3).map (fun i => (i.zero, i.size, i.bytes)) = some (some (.int .i64 0), 1, 8) := by kernel_rfl

structure DaysAt (w1 wr : World) (zs : List Int) (v : Value) : Prop where
  own : wr.ownsRow w1.heap.size 3 1 v zs.length (zs.map (Value.int .i64))
  bel : Below w1.heap.size w1 wr
set_option maxRecDepth 100000 in
set_option maxHeartbeats 3200000 in
theorem days_any (sb m : Nat) (L : List (Key × Cnt)) (zs : List Int) (w : World) (h : StatsAt w sb m L zs) (hl : L.length ≤ 1000000) :
    Calls Tryz.prog 14 #[.pointer (some ⟨sb, 0, none⟩)] w fun e w' => ∃ v, e = .returned v ∧ SliceInt w' v (dayL (sortK (L.map Prod.fst))) ∧ Below w.heap.size w w' := by
  obtain ⟨i0, hi, hz0, hz1, hz2⟩ := info_parts Tryz.infoInt
  have hs := sorted_any sb m L zs w h hl
  obtain ⟨ks, hks⟩ : ∃ ks, ks = sortK (L.map Prod.fst) := ⟨_, rfl⟩
  rw [← hks] at hs ⊢
  have hs' := Lib.hid hs
  have hi' := Lib.hid hi
  have hz0' := Lib.hid hz0
  have hz1' := Lib.hid hz1
  have hz2' := Lib.hid hz2
  have hks' := Lib.hid hks
  clear hi hz0 hz1 hz2 hs h hks
  go_enter Tryz.func14, Tryz.ntmps14
  go_wp2_with (go_at_call 36; fail)
  refine hs'.out.mono ?_
  rintro e w1 ⟨sv, rfl, hsk, hb⟩
  obtain ⟨A, c, rfl, hkl, hcells, _⟩ := hsk
  have hcells' := Lib.hid hcells
  have hb' := Lib.hid hb
  clear hcells hb
  go_wp2_with fail
  go_loopw [3, 9] (fun v i wr => ∃ k : Nat, k ≤ ks.length ∧ i = .int .i64 k ∧ DaysAt w1 wr (dayL (ks.take k)) v) (fun _ i _ => ks.length - (intOf i).toNat)
  case atStart => exact ⟨0, by omega, rfl, ⟨World.ownsRow_nil _ _ _ _, Below.refl _ _⟩⟩
  case round =>
    obtain ⟨k, hk0, rfl, hA⟩ := hrel
    by_cases hk : k < ks.length
    · obtain ⟨x, hx⟩ : ∃ x, ks[k]? = some x := ⟨_, List.getElem?_eq_getElem hk⟩
      obtain ⟨b, o, rfl, hrg0⟩ := hcells'.out k x hx
      have hnext : Hid (dayL (ks.take (k + 1)) = if x.2.1 = 0 then dayL (ks.take k) ++ [x.1] else dayL (ks.take k)) := by show _ = _; rw [take_some hx, dayL_snoc]
      have hdl : (dayL (ks.take k)).length ≤ 1000000 := Nat.le_trans (dayL_len _) (by simp; omega)
      obtain ⟨k1, k2, k3⟩ := x
      have hbb : b < w1.heap.size := World.block_lt_of_cell? w1 _ (hrg0 0 _ rfl)
      have hrg : wr.rangeAt b (o + k * 3) [.int .i64 k1, .int .i64 k2, .string k3] := fun j v hj => (hA.bel.cell (p := ⟨b, _, none⟩) hbb).trans (hrg0 j v hj)
      obtain ⟨zs, hzs⟩ : ∃ zs, zs = dayL (ks.take k) := ⟨_, rfl⟩
      rw [← hzs] at hA hnext hdl
      have hA' := Lib.hid hA
      have hrg' := Lib.hid hrg
      clear hA hrg hrg0 hx hzs
      by_cases h0 : k2 = 0
      · subst h0
        rw [if_pos rfl] at hnext
        obtain ⟨W, hW⟩ : ∃ W, W = wr.alloc (.cells #[.int .i64 k1, .int .i64 0, .string k3] 64) := ⟨_, rfl⟩
        have r0 : Hid ((W.alloc (.cells #[.int .i64 k1] 3)).ownsRow w1.heap.size 3 1 u3 zs.length (zs.map (Value.int .i64))) := by show World.ownsRow _ _ _ _ _ _ _; rw [hW]; exact (hA'.out.own.alloc _).alloc _
        have hWs : W.heap.size = wr.heap.size + 1 := by rw [hW]; simp
        have r1 : Hid (∀ j u, [Value.int .i64 k1][j]? = some u → (W.alloc (.cells #[.int .i64 k1] 3)).cell? ((⟨wr.heap.size + 1, 0, none⟩ : Addr).add j) = some u) := by show ∀ j u, _ → _; rw [← hWs]; exact cell_one_new _ _ _
        have r3 : Hid (zs.length + 1 ≤ maxLen) := by show _ ≤ _; unfold maxLen; omega
        have r4 : Hid ((zs.length + 1) * 8 ≤ 140737488355328) := by show _ ≤ _; omega
        have r5 : Hid (w1.heap.size ≤ (W.alloc (.cells #[.int .i64 k1] 3)).heap.size) := by have := hA'.out.bel.size; show _ ≤ _; rw [hW]; simp; omega
        have hW' := Lib.hid hW
        rw [hW] at r0 r1 r5
        clear hdl hW hWs
        go_wp2_with (first | (refine wpList_load_mid rfl 64 _ rfl b (o + k * 3) rfl _ _ hrg'.out Tryz.underlying64 rfl rfl ?_) | (at_builtin; refine wpList_append_own _ rfl _ _ 38 rfl w1.heap.size 3 i0 (.int .i64 0) 1 8 Tryz.underlying38 hi'.out hz0'.out hz1'.out hz2'.out rfl (by decide) _ _ _ rfl r0.out ⟨wr.heap.size + 1, 0, none⟩ 1 1 _ rfl rfl r1.out (by simp [Value.oneCell']) r3.out r4.out r5.out ?_; intro v' w4 ho hg4 _; have ho' := Lib.hid ho; have hg4' := Lib.hid hg4; clear ho hg4))
        refine ⟨⟨k + 1, by omega, by go_num, ?_⟩, by simp [intOf]; omega⟩
        rw [hnext.out]
        refine ⟨by simpa using ho'.out, ?_⟩
        exact ((hA'.out.bel.alloc hA'.out.bel.size _).alloc (by have := hA'.out.bel.size; simp; omega) _).grown hg4'.out (by have := hA'.out.bel.size; simp; omega) (fun j hj => (hA'.out.own.lt j hj).1)
      · have hq : (k2 == 0) = false := beq_eq_false_iff_ne.2 h0
        rw [if_neg h0] at hnext
        go_wp2_with (first | (refine wpList_load_mid rfl 64 _ rfl b (o + k * 3) rfl _ _ hrg'.out Tryz.underlying64 rfl rfl ?_))
        exact ⟨⟨k + 1, by omega, by go_num, by rw [hnext.out]; exact ⟨hA'.out.own.alloc _, hA'.out.bel.alloc hA'.out.bel.size _⟩⟩, by simp [intOf]; omega⟩
    · obtain rfl : k = ks.length := by omega
      rw [List.take_length] at hA
      have hA' := Lib.hid hA
      clear hA
      go_wp2_with fail
      go_ret
      exact ⟨_, rfl, own_sliceInt hA'.out.own (Nat.le_trans (dayL_len _) hkl), hb'.out.trans (hA'.out.bel.mono hb'.out.size)⟩
end Go.Proofs.YtlemadbmlnjhpaaGreatDoor
