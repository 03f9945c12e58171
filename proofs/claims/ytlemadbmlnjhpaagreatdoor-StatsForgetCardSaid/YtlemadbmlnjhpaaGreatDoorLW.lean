/- Stats.Forget. -/
import Derived.Test.YtlemadbmlnjhpaaGreatDoorLV
import Derived.Deep.RegionHeld3
namespace Go.Proofs.YtlemadbmlnjhpaaGreatDoor
open Go Go.RowKit Go.Proofs
set_option linter.unusedSimpArgs false
set_option linter.unusedVariables false

theorem SliceKey.kept {w w' : World} {v : Value} {ks : List Key} {sb m B : Nat} {L : List (Key × Cnt)} {zs : List Int} (h : SliceKey w v ks) (hs : StatsAt w sb m L zs) (hk : Kept B sb m w w') (hB : w.heap.size ≤ B) : SliceKey w' v ks := by
  obtain ⟨A, cc, h1, h2, h3, h4⟩ := h
  have key : ∀ bb o, A = some ⟨bb, o, none⟩ → w'.heap[bb]? = w.heap[bb]? := fun bb o hA => by
    obtain ⟨cs, hc⟩ := h4 bb o hA
    refine hk.block bb (by have := (Array.getElem?_eq_some_iff.1 hc).1; omega) (fun he => ?_) (fun he => ?_)
    · subst he
      rw [hs.1] at hc
      exact absurd (Obj.cells.inj (Option.some.inj hc)).2.1 (by decide)
    · subst he
      obtain ⟨es, clock, hm, _⟩ := hs.2.2
      rw [hm] at hc
      cases hc
  refine ⟨A, cc, h1, h2, fun k x hk => ?_, fun bb o hA => ?_⟩
  · obtain ⟨bb, o, e1, e2⟩ := h3 k x hk
    exact ⟨bb, o, e1, fun j u hj => (World.cell?_of_block (key bb o e1)).trans (e2 j u hj)⟩
  · obtain ⟨cs, hc⟩ := h4 bb o hA
    exact ⟨cs, (key bb o hA).trans hc⟩

/-- between two keys -/
structure ForgetAt (w wr : World) (sb m : Nat) (L : List (Key × Cnt)) (zs : List Int) (sv : Value) (ks : List Key) : Prop where
  st : StatsAt wr sb m L zs
  kept : Kept w.heap.size sb m w wr
  key : SliceKey wr sv ks
theorem ForgetAt.below {w wr w' : World} {sb m : Nat} {L : List (Key × Cnt)} {zs : List Int} {sv : Value} {ks : List Key} (h : ForgetAt w wr sb m L zs sv ks) (hb : Below wr.heap.size wr w') : ForgetAt w w' sb m L zs sv ks :=
  ⟨h.st.below hb, h.kept.below hb h.kept.size, h.key.below hb⟩
theorem ForgetAt.grown {w wr w' : World} {sb m : Nat} {L M : List (Key × Cnt)} {zs : List Int} {sv : Value} {ks : List Key} (h : ForgetAt w wr sb m L zs sv ks) (hm : MapIs w' m M) (hg : wr.grownBy w' (some m)) : ForgetAt w w' sb m M zs sv ks := by
  have hk : Kept wr.heap.size sb m wr w' := (Kept.refl _ _ _ _).grown hg (Nat.le_refl _)
  refine ⟨⟨?_, h.st.2.1, hm⟩, h.kept.grown hg h.kept.size, h.key.kept h.st hk (Nat.le_refl _)⟩
  rw [hg.block sb h.st.lt.1 (fun e => ?_)]
  · exact h.st.1
  · cases e
    obtain ⟨es, clock, hh, _⟩ := h.st.2.2
    have h1 := h.st.1
    rw [hh] at h1
    cases h1

set_option maxRecDepth 100000 in
set_option maxHeartbeats 3200000 in
theorem forget_any (sb m : Nat) (L : List (Key × Cnt)) (zs : List Int) (before : Int) (w : World) (h : StatsAt w sb m L zs) (hn : (L.map Prod.fst).Nodup) (hl : L.length ≤ 100000) :
    Calls Tryz.prog 19 #[.pointer (some ⟨sb, 0, none⟩), .int .i64 before] w fun e w' => e = .returned (.int .i64 (goneN before (sortK (L.map Prod.fst)) : Nat)) ∧ StatsAt w' sb m (forgetL before L) zs ∧ Kept w.heap.size sb m w w' := by
  have hs := sorted_any sb m L zs w h (by omega)
  obtain ⟨ks, hks⟩ : ∃ ks, ks = sortK (L.map Prod.fst) := ⟨_, rfl⟩
  rw [← hks] at hs ⊢
  have hkl : ks.length ≤ 100000 := by rw [hks, sortK_length, List.length_map]; exact hl
  have hkn : ks.Nodup := by rw [hks]; exact (sortK_perm _).nodup_iff.2 hn
  have hkm : ∀ x, x ∈ ks ↔ x ∈ L.map Prod.fst := fun x => by rw [hks]; exact (sortK_perm _).mem_iff
  have hs' := Lib.hid hs
  have h' := Lib.hid h
  have hkn' := Lib.hid hkn
  have hkm' := Lib.hid hkm
  have hn' := Lib.hid hn
  clear hs hks hkn hkm h hn
  go_enter Tryz.func19, Tryz.ntmps19
  go_wp2_with (go_at_call 36; fail)
  refine hs'.out.mono ?_
  rintro e w1 ⟨sv, rfl, hsk, hb⟩
  have hA0 : ForgetAt w w1 sb m (leftL before [] L) zs sv ks := ⟨by rw [leftL_nil]; exact h'.out.below hb, Kept.ofBelow hb, hsk⟩
  obtain ⟨A, c, rfl, hkb, _, _⟩ := hsk
  have hA0' := Lib.hid hA0
  clear hb hA0
  go_wp2_with fail
  go_loopw [5, 11] (fun nv i wr => ∃ k : Nat, k ≤ ks.length ∧ i = .int .i64 k ∧ nv = .int .i64 (goneN before (ks.take k) : Nat) ∧ ForgetAt w wr sb m (leftL before (ks.take k) L) zs (.slice A ks.length c) ks) (fun _ i _ => ks.length - (intOf i).toNat)
  case atStart => exact ⟨0, by omega, rfl, rfl, hA0'.out⟩
  case round =>
    obtain ⟨k, hk0, rfl, rfl, hA⟩ := hrel
    have hgl := goneN_le before (ks.take k)
    rw [List.length_take, Nat.min_eq_left hk0] at hgl
    obtain ⟨n, hnn⟩ : ∃ n, n = goneN before (ks.take k) := ⟨_, rfl⟩
    rw [← hnn] at hgl ⊢
    have hA' := Lib.hid hA
    have hnn' := Lib.hid hnn
    clear hA hnn
    by_cases hk : k < ks.length
    · obtain ⟨x, hx⟩ : ∃ x, ks[k]? = some x := ⟨_, List.getElem?_eq_getElem hk⟩
      obtain ⟨A2, c2, hform, _, hcells, _⟩ := hA'.out.key
      cases hform
      obtain ⟨b, o, rfl, hrg0⟩ := hcells k x hx
      have htk : ks.take (k + 1) = ks.take k ++ [x] := take_some hx
      have hnot : x ∉ ks.take k := fun hm => by
        obtain ⟨j, hj, hjx⟩ := List.getElem_of_mem hm
        have hj2 : j < k := by simp at hj; omega
        rw [List.getElem_take] at hjx
        have hkx := (List.getElem?_eq_some_iff.1 hx).2
        exact absurd ((List.getElem_inj hkn'.out).1 (hjx.trans hkx.symm)) (by omega)
      have hfind := find_left (before := before) ((hkm'.out x).1 (List.mem_of_getElem? hx)) hnot
      have hgs := goneN_snoc before (ks.take k) x
      rw [← htk, ← hnn'.out] at hgs
      have hkeep := leftL_keep (before := before) (ks := ks.take k) (x := x) L
      have hgone := leftL_gone (before := before) (ks := ks.take k) (x := x) L
      rw [← htk] at hkeep hgone
      have hnd := nodup_left (before := before) (ks := ks.take k) hn'.out
      obtain ⟨M, hM⟩ : ∃ M, M = leftL before (ks.take k) L := ⟨_, rfl⟩
      rw [← hM] at hA' hfind hkeep hgone hnd
      obtain ⟨k1, k2, k3⟩ := x
      have hrg : wr.rangeAt b (o + k * 3) [.int .i64 k1, .int .i64 k2, .string k3] := hrg0
      have hkb0 : keepB before (k1, k2, k3) = !(k2 != 0 && decide (k1 < before)) := rfl
      have hrg' := Lib.hid hrg
      have hfind' := Lib.hid hfind
      have hgs' := Lib.hid hgs
      have hkeep' := Lib.hid hkeep
      have hgone' := Lib.hid hgone
      have hnd' := Lib.hid hnd
      have hkb' := Lib.hid hkb0
      obtain ⟨W, hW⟩ : ∃ W, W = wr.alloc (.cells #[.int .i64 k1, .int .i64 k2, .string k3] 64) := ⟨_, rfl⟩
      have hAW : ForgetAt w W sb m M zs (.slice (some ⟨b, o, none⟩) ks.length c) ks := hA'.out.below (by rw [hW]; exact (Below.refl _ _).alloc (Nat.le_refl _) _)
      have hkH : W.heap[wr.heap.size]? = some (.cells #[.int .i64 k1, .int .i64 k2, .string k3] 64 (0, 0)) := by rw [hW]; exact heap_alloc_new wr _
      have hAW' := Lib.hid hAW
      have hkH' := Lib.hid hkH
      have hW' := Lib.hid hW
      clear hrg hrg0 hcells hx htk hnot hfind hgs hkeep hgone hnd hM hkb0 hAW hkH hW
      by_cases h0 : k2 = 0
      · subst h0
        have hkp : keepB before (k1, 0, k3) = true := by rw [hkb'.out]; rfl
        rw [hkp] at hgs'
        have hk1 := Lib.hid (hkeep'.out hkp)
        clear hkp
        go_wp2_with (first | (refine wpList_load_mid rfl 64 _ rfl b (o + k * 3) rfl _ _ hrg'.out Tryz.underlying64 rfl rfl ?_))
        rw [← hW'.out]
        exact ⟨⟨k + 1, by omega, by go_num, by rw [hgs'.out]; rfl, by rw [hk1.out]; exact hAW'.out⟩, by simp [intOf]; omega⟩
      · have hq0 : (k2 != 0) = true := by simpa using h0
        by_cases hlt : k1 < before
        · have hkp : keepB before (k1, k2, k3) = false := by rw [hkb'.out, hq0, decide_eq_true hlt]; rfl
          rw [hkp] at hgs'
          have hk1 := Lib.hid (hgone'.out hkp)
          obtain ⟨j, d, hfj⟩ := hfind'.out
          have hed := (erase_drop hnd'.out hfj).2
          rw [Nat.sub_zero] at hed
          obtain ⟨W2, hdel, hm2, hg2⟩ := MapIs.delete (w := W.drew) (show MapIs W.drew m M from hAW'.out.st.2.2) (k1, k2, k3) hfj
          rw [hed, ← hk1.out] at hm2
          have hdel2 : ∀ ty : TypeId, (Builtin.delete_ #[70, 64] ty #[.map (some m), .agg #[.int .i64 k1, .int .i64 k2, .string k3]]).run Tryz.prog W.drew = .ok (.tuple #[]) W2 := hdel
          have hAD : ForgetAt w W.drew sb m M zs (.slice (some ⟨b, o, none⟩) ks.length c) ks := hAW'.out.below (Below.refl _ _).drew
          have hA2 := Lib.hid (hAD.grown hm2 hg2)
          have c0 := hAW'.out.st.cell0
          have q0 : W.cell? ⟨wr.heap.size, 0, none⟩ = some (.int .i64 k1) := by rw [cell_of_row _ _ _ _ _ _ hkH'.out]; rfl
          have q1 : W.cell? ⟨wr.heap.size, 1, none⟩ = some (.int .i64 k2) := by rw [cell_of_row _ _ _ _ _ _ hkH'.out]; rfl
          have q2 : W.cell? ⟨wr.heap.size, 2, none⟩ = some (.string k3) := by rw [cell_of_row _ _ _ _ _ _ hkH'.out]; rfl
          have hne : ∀ x o v, W.cell? ⟨x, o, none⟩ = some v → x ≠ m := fun x o v hx e => by
            subst e
            obtain ⟨es, clock, hh, _⟩ := hAW'.out.st.2.2
            simp [World.cell?, hh] at hx
          have n1 := hne _ _ _ c0
          have n2 := hne _ _ _ q0
          have z1 : W2.cell? ⟨sb, 0, none⟩ = some (.map (some m)) := hg2.cell (show W.drew.cell? _ = _ from c0) (by simp; exact n1)
          have z2 : W2.cell? ⟨wr.heap.size, 0, none⟩ = some (.int .i64 k1) := hg2.cell (show W.drew.cell? _ = _ from q0) (by simp; exact n2)
          have z3 : W2.cell? ⟨wr.heap.size, 1, none⟩ = some (.int .i64 k2) := hg2.cell (show W.drew.cell? _ = _ from q1) (by simp; exact n2)
          have z4 : W2.cell? ⟨wr.heap.size, 2, none⟩ = some (.string k3) := hg2.cell (show W.drew.cell? _ = _ from q2) (by simp; exact n2)
          clear hkp hed hdel hm2 hg2 hAD hne hfj
          go_wp2_with (first | (refine wpList_load_mid rfl 64 _ rfl b (o + k * 3) rfl _ _ hrg'.out Tryz.underlying64 rfl rfl ?_))
          rw [← hW'.out]
          go_wp2_with fail
          go_region_held3 (fun w' => w'.cell? ⟨sb, 0, none⟩ = some (.map (some m)) ∧ w'.cell? ⟨wr.heap.size, 0, none⟩ = some (.int .i64 k1) ∧ w'.cell? ⟨wr.heap.size, 1, none⟩ = some (.int .i64 k2) ∧ w'.cell? ⟨wr.heap.size, 2, none⟩ = some (.string k3))
            (refine ⟨?_, ?_, ?_, ?_⟩ <;> first | assumption | (simp [*]; done))
            (fail)
          clear c0 q0 q1 q2 n1 n2 z1 z2 z3 z4 hdel2
          go_wp2_with fail
          exact ⟨⟨k + 1, by omega, by go_num, by rw [hgs'.out]; go_num, hA2.out⟩, by simp [intOf]; omega⟩
        · have hnl : before ≤ k1 := by omega
          have hkp : keepB before (k1, k2, k3) = true := by rw [hkb'.out, decide_eq_false hlt, Bool.and_false]; rfl
          rw [hkp] at hgs'
          have hk1 := Lib.hid (hkeep'.out hkp)
          clear hkp hlt
          go_wp2_with (first | (refine wpList_load_mid rfl 64 _ rfl b (o + k * 3) rfl _ _ hrg'.out Tryz.underlying64 rfl rfl ?_))
          rw [← hW'.out]
          go_wp2_with fail
          exact ⟨⟨k + 1, by omega, by go_num, by rw [hgs'.out]; rfl, by rw [hk1.out]; exact hAW'.out⟩, by simp [intOf]; omega⟩
    · obtain rfl : k = ks.length := by omega
      rw [List.take_length] at hA' hnn'
      rw [leftL_all (fun q hq => (hkm'.out _).2 (List.mem_map.2 ⟨q, hq, rfl⟩))] at hA'
      go_wp2_with fail
      go_ret
      exact ⟨by rw [← hnn'.out]; rfl, hA'.out.st, hA'.out.kept⟩
end Go.Proofs.YtlemadbmlnjhpaaGreatDoor
