/- StatsMerge: the walk. -/
import Derived.Test.YtlemadbmlnjhpaaGreatDoorMD
import Derived.Test.YtlemadbmlnjhpaaGreatDoorLU
import Derived.Test.YtlemadbmlnjhpaaGreatDoorG7
import Derived.Test.YtlemadbmlnjhpaaGreatDoorG6
import Derived.Test.YtlemadbmlnjhpaaGreatDoorH1
namespace Go.Proofs.YtlemadbmlnjhpaaGreatDoor
open Go Go.RowKit Go.Proofs
set_option linter.unusedSimpArgs false
set_option linter.unusedVariables false

theorem SliceEv.auLen {w : World} {v : Value} {es : List Ev} (h : SliceEv w v es) : ∀ e ∈ es, e.au.length = 16 := fun e he => by
  obtain ⟨k, hk⟩ := List.getElem?_of_mem he
  rcases h with ⟨_, _, _, rfl⟩ | ⟨bb, o, c, _, _, _, h4⟩
  · simp at he
  · obtain ⟨cs, _, v1, v2, v3, v4, v5, v6, v7, v8, v9, v10, v11, v12, v13, v14, v15, v16, g, sv, _, hau, _⟩ := h4 k e hk
    have := congrArg List.length hau
    simpa [byteVals] using this.symm
theorem SameK.keysOk {L M : List (Key × Cnt)} (h : SameK L M) (hk : KeysOk M) : KeysOk L := fun q hq => by
  obtain ⟨q', h1, h2⟩ := List.mem_map.1 (h.keys.mem_iff.1 (List.mem_map.2 ⟨q, hq, rfl⟩))
  rw [← h2]; exact hk q' h1
theorem merged_ok {es fs : List Ev} {D : List (Key × Cnt)} (hD : D.Perm (addsL [] fs)) (he : es.length ≤ 20) (hf : fs.length ≤ 20) (hae : ∀ e ∈ es, e.au.length = 16) (haf : ∀ e ∈ fs, e.au.length = 16) :
    SameK (mergeL (addsL [] es) D) (addsL [] (es ++ fs)) ∧ (mergeL (addsL [] es) D).length ≤ 100000 ∧ Bnd (mergeL (addsL [] es) D) ∧ KeysOk (mergeL (addsL [] es) D) := by
  have hs := merge_same (es := es) hD
  have hE := addsL_bnd es [] 0 bnd_nil
  have hF := addsL_bnd fs [] 0 bnd_nil
  refine ⟨hs, ?_, ?_, hs.keysOk (keysOk_adds fun e h => ?_)⟩
  · have h1 := hs.keys.length_eq
    have h2 := length_addsL (es := es ++ fs) (L := [])
    simp at h1 h2; omega
  · refine bnd_merge hE.1 (fun q hq => hF.1 q (hD.mem_iff.1 hq)) ?_ ?_
    · rw [sumBy_perm _ hD]; have := hE.2.1; have := hF.2.1; omega
    · rw [sumBy_perm _ hD]; have := hE.2.2; have := hF.2.2; omega
  · rcases List.mem_append.1 h with h | h
    · exact hae e h
    · exact haf e h
theorem text_zero (es : List Ev) (hau : ∀ e ∈ es, e.au.length = 16) : textK (addsL [] es) (addsZ noSizes es) = textM (okEvs es) 0 := by
  have := text_model es hau 0
  rwa [forget_none es (Int.le_refl 0)] at this
theorem adds_all (es fs : List Ev) : addsL [] (okEvs es ++ okEvs fs) = addsL [] (es ++ fs) ∧ addsZ noSizes (okEvs es ++ okEvs fs) = addsZ noSizes (es ++ fs) ∧ okEvs (es ++ fs) = okEvs es ++ okEvs fs := by
  have e : okEvs (es ++ fs) = okEvs es ++ okEvs fs := by simp [okEvs]
  refine ⟨by rw [← e, addsL_ok], ?_, e⟩
  rw [addsZ_szM, addsZ_szM, e, okEvs_self (es := okEvs es ++ okEvs fs) fun x hx => ?_]
  rcases List.mem_append.1 hx with h | h <;> exact okEvs_err x h
/-- what the loop over all the events keeps -/
structure AllAt (w1 wr : World) (p1 p2 p3 p4 p5 : Nat) (La Lb Lc Ld Le : List (Key × Cnt)) (Za Zb Zc Zd Ze : List Int) (xv yv av : Value) (xs ys al : List Ev) : Prop where
  bel : Below w1.heap.size w1 wr
  sa : StatsAt wr (p1 + 1) p1 La Za
  sb : StatsAt wr (p2 + 1) p2 Lb Zb
  sc : StatsAt wr (p3 + 1) p3 Lc Zc
  sd : StatsAt wr (p4 + 1) p4 Ld Zd
  se : StatsAt wr (p5 + 1) p5 Le Ze
  x : SliceEv wr xv xs
  y : SliceEv wr yv ys
  al : SliceEv wr av al
theorem AllAt.add {w1 wr w' : World} {p1 p2 p3 p4 p5 : Nat} {La Lb Lc Ld Le Le' : List (Key × Cnt)} {Za Zb Zc Zd Ze Ze' : List Int} {xv yv av : Value} {xs ys al : List Ev} (h : AllAt w1 wr p1 p2 p3 p4 p5 La Lb Lc Ld Le Za Zb Zc Zd Ze xv yv av xs ys al)
    (q1 : w1.heap.size ≤ p1) (q2 : p1 + 1 < p2) (q3 : p2 + 1 < p3) (q4 : p3 + 1 < p4) (q5 : p4 + 1 < p5) (hst : StatsAt w' (p5 + 1) p5 Le' Ze') (hk : Kept wr.heap.size (p5 + 1) p5 wr w') : AllAt w1 w' p1 p2 p3 p4 p5 La Lb Lc Ld Le' Za Zb Zc Zd Ze' xv yv av xs ys al :=
  ⟨h.bel.trans (hk.toBelow h.bel.size (by omega) (by omega)), h.sa.kept hk (Nat.le_refl _) (by omega) (by omega) (by omega) (by omega), h.sb.kept hk (Nat.le_refl _) (by omega) (by omega) (by omega) (by omega),
    h.sc.kept hk (Nat.le_refl _) (by omega) (by omega) (by omega) (by omega), h.sd.kept hk (Nat.le_refl _) (by omega) (by omega) (by omega) (by omega), hst, h.x.kept h.se hk, h.y.kept h.se hk, h.al.kept h.se hk⟩
theorem AllAt.below {w1 wr w' : World} {p1 p2 p3 p4 p5 : Nat} {La Lb Lc Ld Le : List (Key × Cnt)} {Za Zb Zc Zd Ze : List Int} {xv yv av : Value} {xs ys al : List Ev} (h : AllAt w1 wr p1 p2 p3 p4 p5 La Lb Lc Ld Le Za Zb Zc Zd Ze xv yv av xs ys al)
    (hb : Below wr.heap.size wr w') : AllAt w1 w' p1 p2 p3 p4 p5 La Lb Lc Ld Le Za Zb Zc Zd Ze xv yv av xs ys al :=
  ⟨h.bel.trans (hb.mono h.bel.size), h.sa.below hb, h.sb.below hb, h.sc.below hb, h.sd.below hb, h.se.below hb, h.x.below hb, h.y.below hb, h.al.below hb⟩

theorem OwnEv.join {w w' : World} {base : Nat} {v : Value} {es fs : List Ev} {ys zs : List Value} (h : w'.ownsRow base 27 20 v (es.length + fs.length) (ys ++ zs)) (hy : ys.length = es.length * 20)
    (h1 : ∀ k e, es[k]? = some e → ∃ cs, (∀ j u, cs[j]? = some u → ys[k * 20 + j]? = some u) ∧ EvAt w e cs) (h2 : ∀ k e, fs[k]? = some e → ∃ cs, (∀ j u, cs[j]? = some u → zs[k * 20 + j]? = some u) ∧ EvAt w e cs) : OwnEv w w' base v (es ++ fs) := by
  refine ⟨ys ++ zs, by rw [List.length_append]; exact h, fun k e hk => ?_⟩
  rcases Nat.lt_or_ge k es.length with hlt | hge
  · rw [List.getElem?_append_left hlt] at hk
    obtain ⟨ds, h3, h4⟩ := h1 k e hk
    refine ⟨ds, fun j u hj => ?_, h4⟩
    have := h3 j u hj
    rw [List.getElem?_append_left (List.getElem?_eq_some_iff.1 this).1]; exact this
  · rw [List.getElem?_append_right hge] at hk
    obtain ⟨ds, h3, h4⟩ := h2 _ e hk
    refine ⟨ds, fun j u hj => ?_, h4⟩
    have := h3 j u hj
    rw [List.getElem?_append_right (by rw [hy]; omega), hy, show k * 20 + j - es.length * 20 = (k - es.length) * 20 + j by omega]
    exact this
set_option maxRecDepth 100000 in
set_option maxHeartbeats 12800000 in
theorem statsmerge_lit (v u : Value) (es fs : List Ev) (w : World) (hv : SliceEv w v es) (hu : SliceEv w u fs) (hT : Tab w) :
    Calls Tryz.prog 6 #[v, u] w fun e w' => e = .returned (.bool true) ∧ Below w.heap.size w w' := by
  obtain ⟨i0, hi, hz0, hz1, hz2⟩ := info_parts Tryz.infoEv
  have hi' := Lib.hid hi
  have hz0' := Lib.hid hz0
  have hz1' := Lib.hid hz1
  have hz2' := Lib.hid hz2
  clear hi hz0 hz1 hz2
  have hau := Lib.hid hv.auLen
  have hav := Lib.hid hu.auLen
  have hv' := Lib.hid hv
  have hu' := Lib.hid hu
  have hT' := Lib.hid hT
  clear hv hu hT
  go_enter Tryz.func6, Tryz.ntmps6
  go_wp2_with (go_at_call 8; fail)
  refine (known_any _).mono ?_
  rintro e w1 ⟨rfl, hb1⟩
  have hb1' := Lib.hid hb1
  clear hb1
  go_wp2_with (go_at_call 9; fail)
  refine (few_any v es _ (hv'.out.below hb1'.out)).mono ?_
  rintro e w1' ⟨⟨fb, rfl, hfb⟩, rfl⟩
  have hfb' := Lib.hid hfb
  clear hfb
  cases fb with
  | false =>
    go_wp2_with (go_at_call 8; fail)
    refine (known_any _).mono ?_
    rintro e w2 ⟨rfl, hb2⟩
    have hb2' := Lib.hid (hb1'.out.trans (hb2.mono hb1'.out.size))
    clear hb2
    go_wp2_with fail
    go_ret
    exact ⟨rfl, hb2'.out⟩
  | true =>
    have h20 : es.length ≤ 20 := hfb'.out rfl
    go_wp2_with (go_at_call 9; fail)
    refine (few_any u fs _ (hu'.out.below hb1'.out)).mono ?_
    rintro e w1' ⟨⟨fb, rfl, hfb⟩, rfl⟩
    have hfc' := Lib.hid hfb
    clear hfb
    cases fb with
    | false =>
      go_wp2_with (go_at_call 8; fail)
      refine (known_any _).mono ?_
      rintro e w2 ⟨rfl, hb2⟩
      have hb2' := Lib.hid (hb1'.out.trans (hb2.mono hb1'.out.size))
      clear hb2
      go_wp2_with fail
      go_ret
      exact ⟨rfl, hb2'.out⟩
    | true =>
      have h21 : fs.length ≤ 20 := hfc'.out rfl
      have nE := addsL_bnd es [] 0 bnd_nil
      have nF := addsL_bnd fs [] 0 bnd_nil
      have zE : SzN (addsZ noSizes es) 1000000000 := fun z hz => by have := addsZ_bnd es noSizes 0 sz_none (by omega) z hz; omega
      have zF : SzN (addsZ noSizes fs) 1000000000 := fun z hz => by have := addsZ_bnd fs noSizes 0 sz_none (by omega) z hz; omega
      have nE' := Lib.hid (nE.mono (M := 400000) (by omega))
      have nF' := Lib.hid (nF.mono (M := 400000) (by omega))
      have zE' := Lib.hid zE
      have zF' := Lib.hid zF
      clear nE nF zE zF
      go_wp2_with (go_at_call 10; fail)
      refine (build_any _ es _ (hv'.out.below hb1'.out) (by omega)).mono ?_
      rintro e w2 ⟨xv, rfl, hA⟩
      obtain ⟨p1, hp1⟩ : ∃ p, p = w1.heap.size := ⟨_, rfl⟩
      rw [← hp1]
      have hSa : Hid (StatsAt w2 (p1 + 1) p1 (addsL [] es) (addsZ noSizes es)) := by show StatsAt _ _ _ _ _; rw [hp1]; exact hA.st
      have hxl : (okEvs es).length ≤ 20 := Nat.le_trans (okEvs_len es) h20
      have hX2 := Lib.hid (hA.own.slice (by omega) hA.bel)
      have hxn : Hid (∀ n c, xv = .slice none n c → xv = .slice none 0 0) := by
        obtain ⟨xs, ⟨_, h | ⟨g, cap, cur, h, _⟩⟩, _⟩ := hA.own
        · exact fun n c _ => h.1
        · exact fun n c hh => by rw [h] at hh; cases hh
      have hC2 := Lib.hid hA.bel
      have q1 : w1.heap.size ≤ p1 := by omega
      clear hA hp1
      go_wp2_with (go_at_call 10; fail)
      refine (build_any _ fs _ ((hu'.out.below hb1'.out).below hC2.out) (by omega)).mono ?_
      rintro e w3 ⟨yv, rfl, hA⟩
      obtain ⟨p2, hp2⟩ : ∃ p, p = w2.heap.size := ⟨_, rfl⟩
      rw [← hp2]
      have hSb : Hid (StatsAt w3 (p2 + 1) p2 (addsL [] fs) (addsZ noSizes fs)) := by show StatsAt _ _ _ _ _; rw [hp2]; exact hA.st
      have hyl : (okEvs fs).length ≤ 20 := Nat.le_trans (okEvs_len fs) h21
      have hY3 := Lib.hid (hA.own.slice (by omega) hA.bel)
      have hyn : Hid (∀ n c, yv = .slice none n c → yv = .slice none 0 0) := by
        obtain ⟨xs, ⟨_, h | ⟨g, cap, cur, h, _⟩⟩, _⟩ := hA.own
        · exact fun n c _ => h.1
        · exact fun n c hh => by rw [h] at hh; cases hh
      have hC3 := Lib.hid (hC2.out.trans (hA.bel.mono hC2.out.size))
      have hX3 := Lib.hid (hX2.out.below hA.bel)
      have hSa3 := Lib.hid (hSa.out.below hA.bel)
      have q2 : p1 + 1 < p2 := by rw [hp2]; exact hSa.out.lt.1
      clear hA hp2
      go_wp2_with (go_at_call 23; fail)
      refine (clone_any (p2 + 1) p2 _ _ _ hSb.out).mono ?_
      rintro e w4 ⟨rfl, hst, hb4⟩
      obtain ⟨p3, hp3⟩ : ∃ p, p = w3.heap.size := ⟨_, rfl⟩
      rw [← hp3] at hst ⊢
      have hSc4 := Lib.hid hst
      have q3 : p2 + 1 < p3 := by rw [hp3]; exact hSb.out.lt.1
      have hC4 := Lib.hid (hC3.out.trans (hb4.mono hC3.out.size))
      have hX4 := Lib.hid (hX3.out.below hb4)
      have hY4 := Lib.hid (hY3.out.below hb4)
      have hSa4 := Lib.hid (hSa3.out.below hb4)
      have hSb4 := Lib.hid (hSb.out.below hb4)
      clear hst hb4 hp3
      go_wp2_with (go_at_call 23; fail)
      refine (clone_any (p1 + 1) p1 _ _ _ hSa4.out).mono ?_
      rintro e w5 ⟨rfl, hst, hb5⟩
      obtain ⟨p4, hp4⟩ : ∃ p, p = w4.heap.size := ⟨_, rfl⟩
      rw [← hp4] at hst ⊢
      have hSd5 := Lib.hid hst
      have q4 : p3 + 1 < p4 := by rw [hp4]; exact hSc4.out.lt.1
      have hC5 := Lib.hid (hC4.out.trans (hb5.mono hC4.out.size))
      have hX5 := Lib.hid (hX4.out.below hb5)
      have hY5 := Lib.hid (hY4.out.below hb5)
      have hSa5 := Lib.hid (hSa4.out.below hb5)
      have hSb5 := Lib.hid (hSb4.out.below hb5)
      have hSc5 := Lib.hid (hSc4.out.below hb5)
      clear hst hb5 hp4
      go_wp2_with (go_at_call 24; fail)
      refine (merge_any (p3 + 1) p3 (p1 + 1) p1 _ _ _ _ _ hSc5.out hSa5.out nF'.out nE'.out zF'.out zE'.out).mono ?_
      rintro e w6 ⟨rfl, D1, hD1, hst, hk⟩
      have hSc6 := Lib.hid hst
      have hC6 := Lib.hid (hC5.out.trans (hk.toBelow hC5.out.size (by omega) (by omega)))
      have hX6 := Lib.hid (hX5.out.kept hSc5.out hk)
      have hY6 := Lib.hid (hY5.out.kept hSc5.out hk)
      have hSa6 := Lib.hid (hSa5.out.kept hk (Nat.le_refl _) (by omega) (by omega) (by omega) (by omega))
      have hSb6 := Lib.hid (hSb5.out.kept hk (Nat.le_refl _) (by omega) (by omega) (by omega) (by omega))
      have hSd6 := Lib.hid (hSd5.out.kept hk (Nat.le_refl _) (by omega) (by omega) (by omega) (by omega))
      have hD1' := Lib.hid hD1
      clear hst hk hD1
      go_wp2_with (go_at_call 24; fail)
      refine (merge_any (p4 + 1) p4 (p2 + 1) p2 _ _ _ _ _ hSd6.out hSb6.out nE'.out nF'.out zE'.out zF'.out).mono ?_
      rintro e w7 ⟨rfl, D2, hD2, hst, hk⟩
      have hSd7 := Lib.hid hst
      have hC7 := Lib.hid (hC6.out.trans (hk.toBelow hC6.out.size (by omega) (by omega)))
      have hX7 := Lib.hid (hX6.out.kept hSd6.out hk)
      have hY7 := Lib.hid (hY6.out.kept hSd6.out hk)
      have hSa7 := Lib.hid (hSa6.out.kept hk (Nat.le_refl _) (by omega) (by omega) (by omega) (by omega))
      have hSb7 := Lib.hid (hSb6.out.kept hk (Nat.le_refl _) (by omega) (by omega) (by omega) (by omega))
      have hSc7 := Lib.hid (hSc6.out.kept hk (Nat.le_refl _) (by omega) (by omega) (by omega) (by omega))
      have hD2' := Lib.hid hD2
      clear hst hk hD2
      go_wp2_with (go_at_call 25; fail)
      refine (new_any _).mono ?_
      rintro e w8 ⟨rfl, hst, hb8⟩
      obtain ⟨p5, hp5⟩ : ∃ p, p = w7.heap.size := ⟨_, rfl⟩
      rw [← hp5] at hst ⊢
      have hSe8 := Lib.hid hst
      have hC8 := Lib.hid (hC7.out.trans (hb8.mono hC7.out.size))
      have hX8 := Lib.hid (hX7.out.below hb8)
      have hY8 := Lib.hid (hY7.out.below hb8)
      have hSa8 := Lib.hid (hSa7.out.below hb8)
      have hSb8 := Lib.hid (hSb7.out.below hb8)
      have hSc8 := Lib.hid (hSc7.out.below hb8)
      have hSd8 := Lib.hid (hSd7.out.below hb8)
      have q5 : p4 + 1 < p5 := by rw [hp5]; exact hSd7.out.lt.1
      clear hst hb8 hp5
      obtain ⟨xs, hsx, honex, hcx⟩ := hX8.out.src hxn.out
      obtain ⟨ys, hsy, honey, hcy⟩ := hY8.out.src hyn.out
      obtain ⟨W9, hW9⟩ : ∃ W9, W9 = w8.alloc (.cells #[] 27) := ⟨_, rfl⟩
      have hb9 : Below w8.heap.size w8 W9 := by rw [hW9]; exact (Below.refl _ _).alloc (Nat.le_refl _) _
      have hsx' := Lib.hid (hsx.below hb9)
      have hsy' := Lib.hid (hsy.below hb9)
      have honex' := Lib.hid honex
      have honey' := Lib.hid honey
      have hcx' := Lib.hid hcx
      have hcy' := Lib.hid hcy
      have hb9' := Lib.hid hb9
      have hW9' := Lib.hid hW9
      have hylt : Hid (∀ b o c, yv = .slice (some ⟨b, o, none⟩) (okEvs fs).length c → 0 < ys.length → b < w8.heap.size) := fun b o c h hp => by
        obtain ⟨_, A, c', h1, _, h3⟩ := hsy
        rw [h] at h1
        injection h1 with h1 _ _
        obtain ⟨y, hy⟩ : ∃ y, ys[0]? = some y := ⟨_, List.getElem?_eq_getElem hp⟩
        obtain ⟨b', o', hA, hc⟩ := h3 0 y hy
        rw [← h1] at hA
        injection hA with hA
        injection hA with hA _ _
        rw [hA]
        exact World.block_lt_of_cell? _ _ hc
      have hxlen := Lib.hid hsx.1
      clear hsx hsy honex honey hcx hcy hb9 hW9
      have hown0 : W9.ownsRow w8.heap.size 27 20 (.slice (some ⟨w8.heap.size, 0, none⟩) 0 0) 0 [] := by rw [hW9'.out]; exact own_empty (heap_alloc_new _ _) (Nat.le_refl _)
      have hown0' := Lib.hid hown0
      have hsz9 : Hid (w8.heap.size ≤ W9.heap.size) := hb9'.out.size
      clear hown0
      rw [hW9'.out] at hown0' hsx' hsz9 hsy' hb9'
      clear hW9'
      go_wp2_with (at_builtin; refine wpList_append_src _ rfl _ _ 22 rfl w8.heap.size 27 i0 (.agg #[.int .i64 0, .int .u8 0, .int .u8 0, .int .u8 0, .int .u8 0, .int .u8 0, .int .u8 0, .int .u8 0, .int .u8 0, .int .u8 0, .int .u8 0, .int .u8 0, .int .u8 0, .int .u8 0, .int .u8 0, .int .u8 0, .int .u8 0, .slice none 0 0, .slice none 0 0, .int .i64 0]) 20 80 Tryz.underlying22 hi'.out hz0'.out hz1'.out hz2'.out rfl (by decide) _ 0 [] rfl hown0'.out xv _ xs rfl hsx'.out honex'.out (by unfold maxLen; omega) (by omega) hsz9.out ?_; intro v1 wA hoA hgA haA; have hoA' : Hid (wA.ownsRow w8.heap.size 27 20 v1 (okEvs es).length xs) := (by rw [Nat.zero_add] at hoA; exact hoA); have hbA := Lib.hid (hb9'.out.grown hgA hb9'.out.size (fun j hj => (hown0'.out.lt j hj).1)); have hsyA := Lib.hid (hsy'.out.grown hgA (fun b o c h hp e => by have h1 := hylt.out b o c h hp; have h2 := (hown0'.out.lt b e).1; omega)); clear hoA hgA haA; go_wp2_with (at_builtin; refine wpList_append_src _ rfl _ _ 22 rfl w8.heap.size 27 i0 (.agg #[.int .i64 0, .int .u8 0, .int .u8 0, .int .u8 0, .int .u8 0, .int .u8 0, .int .u8 0, .int .u8 0, .int .u8 0, .int .u8 0, .int .u8 0, .int .u8 0, .int .u8 0, .int .u8 0, .int .u8 0, .int .u8 0, .int .u8 0, .slice none 0 0, .slice none 0 0, .int .i64 0]) 20 80 Tryz.underlying22 hi'.out hz0'.out hz1'.out hz2'.out rfl (by decide) _ (okEvs es).length xs rfl hoA'.out yv _ ys rfl hsyA.out honey'.out (by unfold maxLen; omega) (by omega) hbA.out.size ?_; intro v2 wB hoB hgB haB; have hoB' := Lib.hid hoB; have hbB := Lib.hid (hbA.out.grown hgB hbA.out.size (fun j hj => (hoA'.out.lt j hj).1)); clear hoB hgB haB))
      have hav2 : OwnEv w8 wB w8.heap.size v2 (okEvs es ++ okEvs fs) := OwnEv.join hoB'.out hxlen.out hcx'.out hcy'.out
      have hsl2 := hav2.slice (by rw [List.length_append]; omega) hbB.out
      obtain ⟨all, hall⟩ : ∃ all, all = okEvs es ++ okEvs fs := ⟨_, rfl⟩
      rw [← hall] at hsl2
      have hal : all.length ≤ 40 := by rw [hall, List.length_append]; omega
      have haok : Hid (∀ e ∈ all, e.err = 0) := fun e he => by rw [hall] at he; rcases List.mem_append.1 he with h | h <;> exact okEvs_err e h
      have haau : Hid (∀ e ∈ all, e.au.length = 16) := fun e he => by
        rw [hall] at he
        rcases List.mem_append.1 he with h | h
        · exact hau.out e (List.mem_filter.1 h).1
        · exact hav.out e (List.mem_filter.1 h).1
      obtain ⟨Lc, hLc⟩ : ∃ L, L = mergeL (addsL [] fs) D1 := ⟨_, rfl⟩
      obtain ⟨Ld, hLd⟩ : ∃ L, L = mergeL (addsL [] es) D2 := ⟨_, rfl⟩
      obtain ⟨Zc, hZc⟩ : ∃ L, L = plusZ (addsZ noSizes fs) (addsZ noSizes es) := ⟨_, rfl⟩
      obtain ⟨Zd, hZd⟩ : ∃ L, L = plusZ (addsZ noSizes es) (addsZ noSizes fs) := ⟨_, rfl⟩
      have hA0 : AllAt w1 wB p1 p2 p3 p4 p5 (addsL [] es) (addsL [] fs) Lc Ld (addsL [] (all.take 0)) (addsZ noSizes es) (addsZ noSizes fs) Zc Zd (addsZ noSizes (all.take 0)) xv yv v2 (okEvs es) (okEvs fs) all := by
        rw [hLc, hLd, hZc, hZd]
        exact ⟨hC8.out.trans (hbB.out.mono hC8.out.size), hSa8.out.below hbB.out, hSb8.out.below hbB.out, hSc8.out.below hbB.out, hSd8.out.below hbB.out, hSe8.out.below hbB.out, hX8.out.below hbB.out, hY8.out.below hbB.out, hsl2⟩
      have hA0' := Lib.hid hA0
      have hall' := Lib.hid hall
      have hLc' := Lib.hid hLc
      have hLd' := Lib.hid hLd
      have hZc' := Lib.hid hZc
      have hZd' := Lib.hid hZd
      obtain ⟨aa, ac, rfl, _, _⟩ := hsl2.form
      clear hav2 hsl2 hA0 hall hLc hLd hZc hZd hC8 hSa8 hSb8 hSc8 hSd8 hSe8 hX8 hY8 hsx' hsy' honex' honey' hcx' hcy' hb9' hown0' hsz9 hylt hxlen hoA' hbA hsyA hoB' hbB hxn hyn
      go_wp2_with fail
      go_loopw [15] (fun i wr => ∃ k : Nat, k ≤ all.length ∧ i = .int .i64 k ∧ AllAt w1 wr p1 p2 p3 p4 p5 (addsL [] es) (addsL [] fs) Lc Ld (addsL [] (all.take k)) (addsZ noSizes es) (addsZ noSizes fs) Zc Zd (addsZ noSizes (all.take k)) xv yv (.slice aa all.length ac) (okEvs es) (okEvs fs) all) (fun i _ => all.length - (intOf i).toNat)
      case atStart => exact ⟨0, by omega, rfl, hA0'.out⟩
      case round =>
        obtain ⟨k, hk0, rfl, hA⟩ := hrel
        have hA' := Lib.hid hA
        clear hA
        by_cases hk : k < all.length
        · obtain ⟨ev, hev⟩ : ∃ e, all[k]? = some e := ⟨_, List.getElem?_eq_getElem hk⟩
          obtain ⟨aa', ac', hform, _, hvf⟩ := hA'.out.al.form
          cases hform
          obtain ⟨bb, o, cs, rfl, hrg, hea⟩ := hvf k ev hev
          obtain ⟨v1, v2, v3, v4, v5, v6, v7, v8, v9, v10, v11, v12, v13, v14, v15, v16, g, sv, rfl, hau2, hg, hs, _, _⟩ := hea
          have hbN := addsL_bnd (all.take k) [] 0 bnd_nil
          have hbZ := addsZ_bnd (all.take k) noSizes 0 sz_none (by omega)
          have hkl : (all.take k).length = k := by simp; omega
          rw [hkl] at hbN hbZ
          have hac := add_lit (p5 + 1) p5 (addsL [] (all.take k)) (addsZ noSizes (all.take k)) (0 + 100 * (k : Int)) ev.mi v1 v2 v3 v4 v5 v6 v7 v8 v9 v10 v11 v12 v13 v14 v15 v16 g sv ev.au hau2 ev.b ev.gs ev.ss wr hg hs hA'.out.se hbN (by omega) hbZ
          have hnA : ∀ W' er, AddEnd wr (p5 + 1) p5 (addsL [] (all.take k)) (addsZ noSizes (all.take k)) ev.mi ev.au ev.gs ev.ss ev.b er W' →
              er = .returned (.int .i64 0) ∧ AllAt w1 W' p1 p2 p3 p4 p5 (addsL [] es) (addsL [] fs) Lc Ld (addsL [] (all.take (k + 1))) (addsZ noSizes es) (addsZ noSizes fs) Zc Zd (addsZ noSizes (all.take (k + 1))) xv yv (.slice (some ⟨bb, o, none⟩) all.length ac) (okEvs es) (okEvs fs) all := fun W' er hE => by
            obtain ⟨h1, h2, h3⟩ := hE
            have h0 : evErr ev.mi ev.gs ev.ss ev.b = 0 := haok.out ev (List.mem_of_getElem? hev)
            rw [h0] at h1
            refine ⟨h1, ?_⟩
            rw [take_some hev, addsL_snoc, addsZ_snoc]
            exact hA'.out.add q1 q2 q3 q4 q5 h2 h3
          have hrg' := Lib.hid hrg
          have hac' := Lib.hid hac
          have hnA' := Lib.hid hnA
          obtain ⟨mi, hmi⟩ : ∃ x, x = ev.mi := ⟨_, rfl⟩
          obtain ⟨b, hb⟩ : ∃ x, x = ev.b := ⟨_, rfl⟩
          rw [← hmi, ← hb] at hrg' hac'
          rw [← hmi, ← hb] at hnA'
          clear hrg hac hnA hbN hbZ hkl hmi hb hau2 hg hs hev hvf
          go_wp2_with (first | (refine wpList_load_mid rfl 27 _ rfl bb (o + k * 20) rfl _ _ hrg'.out Tryz.underlying27 rfl rfl ?_))
          go_at_call 26
          refine hac'.out.mono ?_
          intro e w2 hE
          obtain ⟨rfl, hA2⟩ := hnA'.out _ _ hE
          have hA2' := Lib.hid hA2
          clear hA2 hE
          go_wp2_with fail
          exact ⟨⟨k + 1, by omega, by go_num, hA2'.out⟩, by simp [intOf]; omega⟩
        · obtain rfl : k = all.length := by omega
          rw [List.take_length] at hA'
          have hd := adds_all es fs
          rw [← hall'.out] at hd
          obtain ⟨mc1, mc2, mc3, mc4⟩ := merged_ok (es := fs) hD1'.out h21 h20 hav.out hau.out
          obtain ⟨md1, md2, md3, md4⟩ := merged_ok (es := es) hD2'.out h20 h21 hau.out hav.out
          have mc5 := mc1.trans (merge_comm fs es)
          rw [← hLc'.out] at mc2 mc3 mc4 mc5
          rw [← hLd'.out] at md1 md2 md3 md4
          have hzc : Zc = addsZ noSizes (es ++ fs) := by rw [hZc'.out, addsZ_merge]; exact addsZ_perm List.perm_append_comm
          have hzd : Zd = addsZ noSizes (es ++ fs) := by rw [hZd'.out, addsZ_merge]
          have hesf : ∀ e ∈ es ++ fs, e.au.length = 16 := fun e h => by
            rcases List.mem_append.1 h with h | h
            · exact hau.out e h
            · exact hav.out e h
          have hzs : SzN (addsZ noSizes (es ++ fs)) 1000000000 := fun z hz => by
            have h1 := addsZ_bnd (es ++ fs) noSizes 0 sz_none (by omega) z hz
            rw [List.length_append] at h1
            omega
          have htc : textK Lc (addsZ noSizes (es ++ fs)) = textM all 0 := by rw [mc5.text, text_zero _ hesf, hd.2.2]
          rw [hd.1, hd.2.1, hzc, hzd] at hA'
          have hlE : (addsL [] es).length ≤ 100000 := by have := length_addsL (es := es) (L := []); simp at this; omega
          have hlF : (addsL [] fs).length ≤ 100000 := by have := length_addsL (es := fs) (L := []); simp at this; omega
          have hkE := Lib.hid (keysOk_adds hau.out)
          have hkF := Lib.hid (keysOk_adds hav.out)
          have hbE := Lib.hid ((addsL_bnd es [] 0 bnd_nil).bnd (by omega))
          have hbF := Lib.hid ((addsL_bnd fs [] 0 bnd_nil).bnd (by omega))
          have htE := Lib.hid (text_zero es hau.out)
          have htF := Lib.hid (text_zero fs hav.out)
          obtain ⟨Le, hLe⟩ : ∃ L, L = addsL [] (es ++ fs) := ⟨_, rfl⟩
          obtain ⟨Ze, hZe⟩ : ∃ L, L = addsZ noSizes (es ++ fs) := ⟨_, rfl⟩
          rw [← hLe] at hA' mc5 md1
          rw [← hZe] at hA' htc hzs
          have mcs := Lib.hid mc5.same
          have mds := Lib.hid md1.same
          have mc2' := Lib.hid mc2
          have mc3' := Lib.hid mc3
          have mc4' := Lib.hid mc4
          have md2' := Lib.hid md2
          have hzs' := Lib.hid hzs
          have htc' := Lib.hid htc
          have hlE' := Lib.hid hlE
          have hlF' := Lib.hid hlF
          have hoE : (okEvs es).length ≤ 1000 := by omega
          have hoF : (okEvs fs).length ≤ 1000 := by omega
          have hoE' := Lib.hid hoE
          have hoF' := Lib.hid hoF
          have hauE : Hid (∀ e ∈ okEvs es, e.au.length = 16) := fun e he => hau.out e (List.mem_filter.1 he).1
          have hauF : Hid (∀ e ∈ okEvs fs, e.au.length = 16) := fun e he => hav.out e (List.mem_filter.1 he).1
          have hsE : SzN (addsZ noSizes es) 1000000000 := zE'.out
          have hsF : SzN (addsZ noSizes fs) 1000000000 := zF'.out
          have hsE' := Lib.hid hsE
          have hsF' := Lib.hid hsF
          obtain ⟨OE, hOE⟩ : ∃ L, L = okEvs es := ⟨_, rfl⟩
          obtain ⟨OF, hOF⟩ : ∃ L, L = okEvs fs := ⟨_, rfl⟩
          have hkE0 : Hid (∀ e ∈ OE, e.err = 0) := by rw [hOE]; exact okEvs_err
          have hkF0 : Hid (∀ e ∈ OF, e.err = 0) := by rw [hOF]; exact okEvs_err
          obtain ⟨LE, hLE⟩ : ∃ L, L = addsL [] es := ⟨_, rfl⟩
          obtain ⟨LF, hLF⟩ : ∃ L, L = addsL [] fs := ⟨_, rfl⟩
          obtain ⟨ZE, hZE⟩ : ∃ L, L = addsZ noSizes es := ⟨_, rfl⟩
          obtain ⟨ZF, hZF⟩ : ∃ L, L = addsZ noSizes fs := ⟨_, rfl⟩
          rw [← hOE] at hA' hoE' hauE htE
          rw [← hOF] at hA' hoF' hauF htF
          rw [← hLE] at hA' hlE' hkE hbE htE
          rw [← hLF] at hA' hlF' hkF hbF htF
          rw [← hZE] at hA' hsE' htE
          rw [← hZF] at hA' hsF' htF
          clear hd mc1 mc2 mc3 mc4 mc5 md1 md2 md3 md4 hzc hzd hesf hzs htc hlE hlF hLe hZe hoE hoF hsE hsF hOE hOF hLE hLF hZE hZF hall' hLc' hLd' hZc' hZd' hD1' hD2' zE' zF' nE' nF' hv' hu' hau hav hA0'
          go_wp2_with (go_at_call 22; fail)
          refine (equal_any (p3 + 1) (p5 + 1) p3 p5 _ _ _ _ hA'.out.sc hA'.out.se (by have := mc2'.out; omega) mcs.out).mono ?_
          rintro e w9 ⟨rfl, hb⟩
          have hA1 := Lib.hid (hA'.out.below hb)
          clear hb
          go_wp2_with (go_at_call 22; fail)
          refine (equal_any (p4 + 1) (p5 + 1) p4 p5 _ _ _ _ hA1.out.sd hA1.out.se (by have := md2'.out; omega) mds.out).mono ?_
          rintro e w10 ⟨rfl, hb⟩
          have hA2 := Lib.hid (hA1.out.below hb)
          clear hb
          go_wp2_with (go_at_call 20; fail)
          refine (text_any (p3 + 1) p3 _ _ _ hA2.out.sc (hT'.out.below (hb1'.out.trans (hA2.out.bel.mono hb1'.out.size))) mc2'.out mc3'.out mc4'.out hzs'.out).mono ?_
          rintro e w11 ⟨rfl, hb⟩
          rw [htc'.out]
          have hA3 := Lib.hid (hA2.out.below hb)
          clear hb
          obtain ⟨X, hX⟩ : ∃ X, X = textM all 0 := ⟨_, rfl⟩
          rw [← hX]
          have hX' := Lib.hid hX
          clear hX
          go_wp2_with (go_at_call 21; fail)
          refine (mtext_any _ all 0 _ hA3.out.al haok.out haau.out (by omega)).mono ?_
          rintro e w12 ⟨rfl, hb⟩
          rw [← hX'.out]
          have hA4 := Lib.hid (hA3.out.below hb)
          clear hb
          go_wp2_with (go_at_call 20; fail)
          refine (text_any (p1 + 1) p1 _ _ _ hA4.out.sa (hT'.out.below (hb1'.out.trans (hA4.out.bel.mono hb1'.out.size))) hlE'.out hbE.out hkE.out hsE'.out).mono ?_
          rintro e w13 ⟨rfl, hb⟩
          rw [htE.out]
          have hA5 := Lib.hid (hA4.out.below hb)
          clear hb
          obtain ⟨Y, hY⟩ : ∃ X, X = textM OE 0 := ⟨_, rfl⟩
          rw [← hY]
          have hY' := Lib.hid hY
          clear hY
          go_wp2_with (go_at_call 21; fail)
          refine (mtext_any _ OE 0 _ hA5.out.x hkE0.out hauE.out hoE'.out).mono ?_
          rintro e w14 ⟨rfl, hb⟩
          rw [← hY'.out]
          have hA6 := Lib.hid (hA5.out.below hb)
          clear hb
          go_wp2_with (go_at_call 20; fail)
          refine (text_any (p2 + 1) p2 _ _ _ hA6.out.sb (hT'.out.below (hb1'.out.trans (hA6.out.bel.mono hb1'.out.size))) hlF'.out hbF.out hkF.out hsF'.out).mono ?_
          rintro e w15 ⟨rfl, hb⟩
          rw [htF.out]
          have hA7 := Lib.hid (hA6.out.below hb)
          clear hb
          obtain ⟨Z, hZ⟩ : ∃ X, X = textM OF 0 := ⟨_, rfl⟩
          rw [← hZ]
          have hZ' := Lib.hid hZ
          clear hZ
          go_wp2_with (go_at_call 21; fail)
          refine (mtext_any _ OF 0 _ hA7.out.y hkF0.out hauF.out hoF'.out).mono ?_
          rintro e w16 ⟨rfl, hb⟩
          rw [← hZ'.out]
          have hA8 := Lib.hid (hA7.out.below hb)
          clear hb
          go_wp2_with fail
          go_ret
          exact ⟨ret_bool (by simp), hb1'.out.trans (hA8.out.bel.mono hb1'.out.size)⟩
end Go.Proofs.YtlemadbmlnjhpaaGreatDoor
