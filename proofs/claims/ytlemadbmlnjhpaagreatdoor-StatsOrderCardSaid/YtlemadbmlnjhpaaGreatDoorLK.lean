/- StatsOrder: the walk. -/
import Derived.Test.YtlemadbmlnjhpaaGreatDoorLI
import Derived.Test.YtlemadbmlnjhpaaGreatDoorLJ
import Derived.Test.YtlemadbmlnjhpaaGreatDoorKJ
import Derived.Test.YtlemadbmlnjhpaaGreatDoorKG
import Derived.Test.YtlemadbmlnjhpaaGreatDoorLA
namespace Go.Proofs.YtlemadbmlnjhpaaGreatDoor
open Go Go.RowKit Go.Proofs
set_option linter.unusedSimpArgs false
set_option linter.unusedVariables false

theorem SliceEv.au {w : World} {v : Value} {es : List Ev} (h : SliceEv w v es) : ∀ e ∈ es, e.au.length = 16 := fun e he => by
  obtain ⟨k, hk⟩ := List.getElem?_of_mem he
  rcases h with ⟨_, _, _, rfl⟩ | ⟨bb, o, c, _, _, _, h4⟩
  · simp at he
  · obtain ⟨cs, _, v1, v2, v3, v4, v5, v6, v7, v8, v9, v10, v11, v12, v13, v14, v15, v16, g, sv, _, hau, _⟩ := h4 k e hk
    have := congrArg List.length hau
    simpa [byteVals] using this.symm
def noEv : Ev := ⟨0, [], [], [], 0⟩
def turnL (es : List Ev) (t : Nat) (k : Nat) : List Ev := (List.range k).map fun i => es.getD ((es.length - 1 - i + t) % es.length) noEv
theorem turnL_succ (es : List Ev) (t k : Nat) : turnL es t (k + 1) = turnL es t k ++ [es.getD ((es.length - 1 - k + t) % es.length) noEv] := by simp [turnL, List.range_succ]
theorem turnL_len (es : List Ev) (t k : Nat) : (turnL es t k).length = k := by simp [turnL]
theorem turnL_perm (es : List Ev) (t : Nat) : (turnL es t es.length).Perm es := turn_perm es t noEv

set_option maxRecDepth 100000 in
set_option maxHeartbeats 3200000 in
theorem statsorder_lit (v : Value) (es : List Ev) (t : Nat) (w : World) (hv : SliceEv w v es) (ht : t ≤ 255) (hT : Tab w) :
    Calls Tryz.prog 5 #[v, .int .u8 t] w fun e w' => e = .returned (.bool true) ∧ Below w.heap.size w w' := by
  obtain ⟨i0, hi, hz0, hz1, hz2⟩ := info_parts Tryz.infoEv
  have hau := Lib.hid hv.au
  have hv' := Lib.hid hv
  obtain ⟨va, vc, rfl, _, hvf⟩ := hv.form
  have hvf' := Lib.hid hvf
  clear hvf hv
  have hi' := Lib.hid hi
  have hz0' := Lib.hid hz0
  have hz1' := Lib.hid hz1
  have hz2' := Lib.hid hz2
  have hT' := Lib.hid hT
  clear hi hz0 hz1 hz2 hT
  go_enter Tryz.func5, Tryz.ntmps5
  go_wp2_with (go_at_call 8; fail)
  refine (known_any _).mono ?_
  rintro e w1 ⟨rfl, hb1⟩
  have hb1' := Lib.hid hb1
  clear hb1
  go_wp2_with (go_at_call 9; fail)
  refine (few_any _ es _ (hv'.out.below hb1'.out)).mono ?_
  rintro e w1' ⟨⟨fb, rfl, hfb⟩, rfl⟩
  have hfb' := Lib.hid hfb
  clear hfb
  cases fb with
  | false =>
    go_wp2_with (go_at_call 8; fail)
    refine (known_any _).mono ?_
    rintro e w2 ⟨rfl, hb2⟩
    have hb2' := Lib.hid (hb1'.out.trans (hb2.mono hb1'.out.size))
    clear hb2
    go_wp2_with fail
    go_ret
    exact ⟨rfl, hb2'.out⟩
  | true =>
    have h20 : es.length ≤ 20 := hfb'.out rfl
    go_wp2_with fail
    go_loopw [5, 6] (fun ov i wr => ∃ k : Nat, k ≤ es.length ∧ i = .int .i64 k ∧ Below w.heap.size w wr ∧ OwnEv w wr w.heap.size ov (turnL es t k)) (fun _ i _ => es.length - (intOf i).toNat)
    case atStart => exact ⟨0, by omega, rfl, hb1'.out, [], World.ownsRow_nil _ _ _ _, fun k e hk => by simp [turnL] at hk⟩
    case round =>
      obtain ⟨k, hk0, rfl, hB, hO⟩ := hrel
      have hB' := Lib.hid hB
      have hO' := Lib.hid hO
      clear hB hO
      by_cases hk : k < es.length
      · obtain ⟨x, hx⟩ : ∃ x, x = (es.length - 1 - k + t) % es.length := ⟨_, rfl⟩
        have hxl : x < es.length := by rw [hx]; exact Nat.mod_lt _ (by omega)
        obtain ⟨ev, hev⟩ : ∃ e, es[x]? = some e := ⟨_, List.getElem?_eq_getElem hxl⟩
        have hgd : es.getD x noEv = ev := by rw [List.getD_eq_getElem?_getD, hev]; rfl
        have htn := turnL_succ es t k
        rw [← hx, hgd] at htn
        obtain ⟨bb, o, cs, rfl, hrg, hea⟩ := hvf'.out x ev hev
        have hea' := Lib.hid hea
        have hone := hea.one
        obtain ⟨v1, v2, v3, v4, v5, v6, v7, v8, v9, v10, v11, v12, v13, v14, v15, v16, g, sv, rfl, _, _, _, _, _⟩ := hea
        have hbb : bb < w.heap.size := World.block_lt_of_cell? w _ (hrg 0 _ rfl)
        have hrgB : ∀ W, Below w.heap.size w W → W.rangeAt bb (o + x * 20) [.int .i64 ev.mi, v1, v2, v3, v4, v5, v6, v7, v8, v9, v10, v11, v12, v13, v14, v15, v16, g, sv, .int .i64 ev.b] := fun W hW j v hj => (hW.cell (p := ⟨bb, _, none⟩) hbb).trans (hrg j v hj)
        have hmod : (es.length : Int) - 1 - (k : Int) + (t : Int) = ((es.length - 1 - k + t : Nat) : Int) := by omega
        have hrem : Int.tmod ((es.length : Int) - 1 - (k : Int) + (t : Int)) (es.length : Int) = (x : Int) := by rw [hmod, hx]; rfl
        have hrgB' := Lib.hid hrgB
        have htn' := Lib.hid htn
        clear hrgB hx hev hgd htn hrg hmod
        obtain ⟨xs, hown, hcs⟩ := hO'.out
        rw [turnL_len] at hown
        obtain ⟨W4, hW4⟩ : ∃ W4, W4 = wr.alloc (.cells #[.int .i64 ev.mi, v1, v2, v3, v4, v5, v6, v7, v8, v9, v10, v11, v12, v13, v14, v15, v16, g, sv, .int .i64 ev.b] 27) := ⟨_, rfl⟩
        have hbel4 : Below wr.heap.size wr W4 := by rw [hW4]; exact (Below.refl _ _).alloc (Nat.le_refl _) _
        have r0 : Hid (W4.ownsRow w.heap.size 27 20 u5 k xs) := by show World.ownsRow _ _ _ _ _ _ _; rw [hW4]; exact hown.alloc _
        have r1 : Hid (∀ j u, [.int .i64 ev.mi, v1, v2, v3, v4, v5, v6, v7, v8, v9, v10, v11, v12, v13, v14, v15, v16, g, sv, .int .i64 ev.b][j]? = some u → W4.cell? ((⟨wr.heap.size, 0, none⟩ : Addr).add j) = some u) := fun j u hj => by
          rw [Addr.add_mid, hW4, cell_of_row _ wr.heap.size _ _ _ _ (heap_alloc_new wr _)]
          simpa using hj
        have r2 : Hid (∀ u ∈ [.int .i64 ev.mi, v1, v2, v3, v4, v5, v6, v7, v8, v9, v10, v11, v12, v13, v14, v15, v16, g, sv, .int .i64 ev.b], u.oneCell' = true) := hone
        have r3 : Hid (k + 1 ≤ maxLen) := show k + 1 ≤ maxLen by unfold maxLen; omega
        have r4 : Hid ((k + 1) * 80 ≤ 140737488355328) := show (k + 1) * 80 ≤ 140737488355328 by omega
        have r5 : Hid (w.heap.size ≤ W4.heap.size) := by
          have h1 := hB'.out.size
          have h2 := hbel4.size
          show _ ≤ _; omega
        have hbel4' := Lib.hid hbel4
        have hown' := Lib.hid hown
        have hcs' := Lib.hid hcs
        have hW4' := Lib.hid hW4
        rw [hW4] at r0 r1 r5
        clear hbel4 hown hcs hone hW4
        go_wp2_with (first | (refine wpList_load_mid rfl 27 _ rfl bb (o + x * 20) rfl _ _ (hrgB'.out _ hB'.out) Tryz.underlying27 rfl rfl ?_) | (at_builtin; refine wpList_append_own _ rfl _ _ 22 rfl w.heap.size 27 i0 (.agg #[.int .i64 0, .int .u8 0, .int .u8 0, .int .u8 0, .int .u8 0, .int .u8 0, .int .u8 0, .int .u8 0, .int .u8 0, .int .u8 0, .int .u8 0, .int .u8 0, .int .u8 0, .int .u8 0, .int .u8 0, .int .u8 0, .int .u8 0, .slice none 0 0, .slice none 0 0, .int .i64 0]) 20 80 Tryz.underlying22 hi'.out hz0'.out hz1'.out hz2'.out rfl (by decide) _ _ _ rfl r0.out ⟨wr.heap.size, 0, none⟩ 1 1 _ rfl rfl r1.out r2.out r3.out r4.out r5.out ?_; intro v' w4 ho hg4 _; have ho' := Lib.hid ho; have hg4' := Lib.hid hg4; clear ho hg4))
        have hg : W4.grownBy w4 u5.ownBlock := by rw [hW4'.out]; exact hg4'.out
        have hlt := hown'.out.lt
        have hb4 : Below w.heap.size w W4 := hB'.out.trans (hbel4'.out.mono hB'.out.size)
        refine ⟨⟨k + 1, by omega, by go_num, hb4.grown hg hb4.size (fun j hj => (hlt j hj).1), ?_⟩, by simp [intOf]; omega⟩
        rw [htn'.out]
        exact OwnEv.append (by rw [turnL_len]; exact hown'.out.1) (by rw [turnL_len]; exact ho'.out) hcs'.out hea'.out
      · obtain rfl : k = es.length := by omega
        obtain ⟨fs, hfs⟩ : ∃ fs, fs = turnL es t es.length := ⟨_, rfl⟩
        have hp : fs.Perm es := by rw [hfs]; exact turnL_perm es t
        have hfl : fs.length = es.length := hp.length_eq
        rw [← hfs] at hO'
        have hsl := hO'.out.slice (by omega) hB'.out
        have hbnE := (addsL_bnd es [] 0 bnd_nil).bnd (by omega)
        have hbnF := (addsL_bnd fs [] 0 bnd_nil).bnd (by omega)
        have hkE := keysOk_adds hau.out
        have hkF : KeysOk (addsL [] fs) := keysOk_adds fun e he => hau.out e (hp.mem_iff.1 he)
        have hsz : SzN (addsZ noSizes es) 1000000000 := fun z hz => by have := addsZ_bnd es noSizes 0 sz_none (by omega) z hz; omega
        have hzs : addsZ noSizes fs = addsZ noSizes es := addsZ_perm hp
        have hsame := sameK_perm hp
        have hlE : (addsL [] es).length ≤ 100000 := by have := length_addsL (es := es) (L := []); simp at this; omega
        have hlF : (addsL [] fs).length ≤ 100000 := by have := length_addsL (es := fs) (L := []); simp at this; omega
        have htx := hsame.text (addsZ noSizes es)
        have hsl' := Lib.hid hsl
        have hbnE' := Lib.hid hbnE
        have hbnF' := Lib.hid hbnF
        have hkE' := Lib.hid hkE
        have hkF' := Lib.hid hkF
        have hsz' := Lib.hid hsz
        have hzs' := Lib.hid hzs
        have hsame' := Lib.hid hsame
        have hlE' := Lib.hid hlE
        have hlF' := Lib.hid hlF
        have htx' := Lib.hid htx
        have hfl' := Lib.hid hfl
        clear hfs hp hfl hsl hbnE hbnF hkE hkF hsz hzs hsame hlE hlF htx
        go_wp2_with (go_at_call 10; fail)
        refine (build_any _ es _ (hv'.out.below hB'.out) (by omega)).mono ?_
        rintro e w2 ⟨ov, rfl, hA⟩
        have hA' := Lib.hid hA
        have hB2 := Lib.hid (hB'.out.trans (hA.bel.mono hB'.out.size))
        have hs2 := Lib.hid (hsl'.out.below hA.bel)
        clear hA
        obtain ⟨p1, hp1⟩ : ∃ p, p = wr.heap.size := ⟨_, rfl⟩
        rw [← hp1]
        have hSt1 : StatsAt w2 (p1 + 1) p1 (addsL [] es) (addsZ noSizes es) := by rw [hp1]; exact hA'.out.st
        have hSt1' := Lib.hid hSt1
        clear hSt1 hA' hp1
        go_wp2_with (go_at_call 10; fail)
        refine (build_any _ fs _ hs2.out (by have := hfl'.out; omega)).mono ?_
        rintro e w3 ⟨ov2, rfl, hA⟩
        obtain ⟨p2, hp2⟩ : ∃ p, p = w2.heap.size := ⟨_, rfl⟩
        rw [← hp2]
        have hSt2 : StatsAt w3 (p2 + 1) p2 (addsL [] fs) (addsZ noSizes es) := by rw [hp2, ← hzs'.out]; exact hA.st
        have hSt1b := Lib.hid (hSt1'.out.below hA.bel)
        have hB3 := Lib.hid (hB2.out.trans (hA.bel.mono hB2.out.size))
        have hSt2' := Lib.hid hSt2
        clear hA hSt2 hp2
        go_wp2_with (go_at_call 22; fail)
        refine (equal_any (p1 + 1) (p2 + 1) p1 p2 _ _ _ _ hSt1b.out hSt2'.out (by have := hlE'.out; omega) hsame'.out.symm.same).mono ?_
        rintro e w4 ⟨rfl, hb4⟩
        have q1 := Lib.hid (hSt1b.out.below hb4)
        have q2 := Lib.hid (hSt2'.out.below hb4)
        have hB4 := Lib.hid (hB3.out.trans (hb4.mono hB3.out.size))
        clear hb4
        go_wp2_with (go_at_call 22; fail)
        refine (equal_any (p2 + 1) (p1 + 1) p2 p1 _ _ _ _ q2.out q1.out (by have := hlF'.out; omega) hsame'.out.same).mono ?_
        rintro e w5 ⟨rfl, hb5⟩
        have r1 := Lib.hid (q1.out.below hb5)
        have r2 := Lib.hid (q2.out.below hb5)
        have hB5 := Lib.hid (hB4.out.trans (hb5.mono hB4.out.size))
        clear hb5
        go_wp2_with (go_at_call 20; fail)
        refine (text_any (p1 + 1) p1 _ _ _ r1.out (hT'.out.below hB5.out) hlE'.out hbnE'.out hkE'.out hsz'.out).mono ?_
        rintro e w6 ⟨rfl, hb6⟩
        have s2 := Lib.hid (r2.out.below hb6)
        have hB6 := Lib.hid (hB5.out.trans (hb6.mono hB5.out.size))
        clear hb6
        obtain ⟨X, hX⟩ : ∃ X, X = textK (addsL [] es) (addsZ noSizes es) := ⟨_, rfl⟩
        rw [← hX] at htx' ⊢
        have hX' := Lib.hid hX
        clear hX
        go_wp2_with (go_at_call 20; fail)
        refine (text_any (p2 + 1) p2 _ _ _ s2.out (hT'.out.below hB6.out) hlF'.out hbnF'.out hkF'.out hsz'.out).mono ?_
        rintro e w7 ⟨rfl, hb7⟩
        rw [← htx'.out]
        have hB7 := Lib.hid (hB6.out.trans (hb7.mono hB6.out.size))
        clear hb7
        go_wp2_with fail
        go_ret
        refine ⟨ret_bool (by simp), hB7.out⟩
end Go.Proofs.YtlemadbmlnjhpaaGreatDoor
