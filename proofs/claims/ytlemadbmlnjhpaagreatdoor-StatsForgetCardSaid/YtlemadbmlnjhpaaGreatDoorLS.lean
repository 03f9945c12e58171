/- The model's all. (Printed by wip/gen_all.py.) -/
import Derived.Test.YtlemadbmlnjhpaaGreatDoorLR
namespace Go.Proofs.YtlemadbmlnjhpaaGreatDoor
open Go Go.RowKit Go.Proofs
set_option linter.unusedSimpArgs false
set_option linter.unusedVariables false

theorem names_len {e : Ev} (he : e.err = 0) (kind : Int) : (e.names kind).length ≤ 50 := by
  obtain ⟨_, ⟨h1, _⟩, h2, _⟩ := evErr_zero he
  unfold Ev.names
  split
  · exact h2
  · split
    · simp
    · exact Nat.le_trans h1 (by omega)
theorem allM_len (kind p q : Int) : ∀ (n : Nat) (es : List Ev), es.length = n → (∀ e ∈ es, e.err = 0) → (allM es kind p q).length ≤ 50 * n
  | 0, es, h, _ => by rw [List.eq_nil_of_length_eq_zero h]; simp [allM]
  | n + 1, es, h, ho => by
    obtain ⟨xs, e, rfl⟩ : ∃ xs e, es = xs ++ [e] := ⟨es.dropLast, es.getLast (by intro h0; subst h0; simp at h), (List.dropLast_concat_getLast _).symm⟩
    have ih := allM_len kind p q n xs (by simpa using h) (fun x hx => ho x (by simp [hx]))
    have h1 := names_len (ho e (by simp)) kind
    have h2 := foldIns_len (e.names kind) (allM xs kind p q)
    rw [allM_snoc, allStep]
    split <;> omega
set_option maxRecDepth 100000 in
set_option maxHeartbeats 3200000 in
theorem all_any (v : Value) (es : List Ev) (kind p q : Int) (w : World) (hv : SliceEv w v es) (hok : ∀ e ∈ es, e.err = 0) (hl : es.length ≤ 1000) (hk1 : 1 ≤ kind) (hk3 : kind ≤ 3) :
    Calls Tryz.prog 18 #[v, .int .i64 kind, .int .i64 p, .int .i64 q] w fun e w' => ∃ u, e = .returned u ∧ OwnS w' w.heap.size u (allM es kind p q) ∧ Below w.heap.size w w' := by
  obtain ⟨va, vc, rfl, _, hvf⟩ := hv.form
  clear hvf
  have hv' := Lib.hid hv
  have hok' := Lib.hid hok
  clear hv hok
  go_enter Tryz.func18, Tryz.ntmps18
  go_wp2_with fail
  go_loopw [9, 10] (fun u i wr => ∃ k : Nat, k ≤ es.length ∧ i = .int .i64 k ∧ Below w.heap.size w wr ∧ OwnS wr w.heap.size u (allM (es.take k) kind p q)) (fun _ i _ => es.length - (intOf i).toNat)
  case atStart => exact ⟨0, by omega, rfl, Below.refl _ _, World.ownsRow_nil _ _ _ _⟩
  case round =>
    obtain ⟨k, hk0, rfl, hB, hO⟩ := hrel
    have hB' := Lib.hid hB
    have hO' := Lib.hid hO
    clear hB hO
    by_cases hk : k < es.length
    · obtain ⟨ev, hev⟩ : ∃ e, es[k]? = some e := ⟨_, List.getElem?_eq_getElem hk⟩
      have herr := hok'.out ev (List.mem_of_getElem? hev)
      obtain ⟨⟨em1, em2⟩, _, _⟩ := Ev.ok herr
      obtain ⟨va', vc', hform, _, hvf⟩ := hv'.out.form
      cases hform
      obtain ⟨bb, o, cs, rfl, hrg0, hea⟩ := hvf k ev hev
      obtain ⟨v1, v2, v3, v4, v5, v6, v7, v8, v9, v10, v11, v12, v13, v14, v15, v16, g, sv, rfl, hau, hg, hs, _, _⟩ := hea
      have hbb : bb < w.heap.size := World.block_lt_of_cell? w _ (hrg0 0 _ rfl)
      have hnl := Lib.hid (names_len herr kind)
      have hol : Hid ((allM (es.take k) kind p q).length ≤ 50000) := by
        have := allM_len kind p q _ (es.take k) rfl (fun e he => hok'.out e (List.mem_of_mem_take he))
        rw [List.length_take, Nat.min_eq_left hk0] at this
        show _ ≤ _; omega
      have hnextA : Hid (allM (es.take (k + 1)) kind p q = if p ≤ ev.mi / 1440 ∧ ev.mi / 1440 ≤ q then (ev.names kind).foldl insS (allM (es.take k) kind p q) else allM (es.take k) kind p q) := by show _ = _; rw [take_some hev, allM_snoc, allStep]
      obtain ⟨ns, hns⟩ : ∃ ns, ns = ev.names kind := ⟨_, rfl⟩
      obtain ⟨out0, hout⟩ : ∃ x, x = allM (es.take k) kind p q := ⟨_, rfl⟩
      rw [← hns] at hnl hnextA
      rw [← hout] at hol hnextA hO'
      have hns' := Lib.hid hns
      have hau' := Lib.hid hau
      have hg' := Lib.hid hg
      have hs' := Lib.hid hs
      obtain ⟨mi, hmi⟩ : ∃ x, x = ev.mi := ⟨_, rfl⟩
      obtain ⟨b, hb⟩ : ∃ x, x = ev.b := ⟨_, rfl⟩
      rw [← hmi] at em1 em2 hrg0 hnextA
      rw [← hb] at hrg0
      have hdc := fun W => mday_lit mi b v1 v2 v3 v4 v5 v6 v7 v8 v9 v10 v11 v12 v13 v14 v15 v16 g sv W em1 em2
      obtain ⟨d, hd⟩ : ∃ d, d = mi / 1440 := ⟨_, rfl⟩
      rw [← hd] at hdc hnextA
      have hdc' := Lib.hid hdc
      have hrgB : ∀ W, Below w.heap.size w W → W.rangeAt bb (o + k * 20) [.int .i64 mi, v1, v2, v3, v4, v5, v6, v7, v8, v9, v10, v11, v12, v13, v14, v15, v16, g, sv, .int .i64 b] := fun W hW j v hj => (hW.cell (p := ⟨bb, _, none⟩) hbb).trans (hrg0 j v hj)
      have hrgB' := Lib.hid hrgB
      clear hns hout hau hg hs hmi hb hd hdc hrgB hrg0 hvf hev herr
      by_cases h1 : p ≤ d
      · have hdp : decide (d < p) = false := decide_eq_false (by omega)
        go_wp2_with (first | (refine wpList_load_mid rfl 27 _ rfl bb (o + k * 20) rfl _ _ (hrgB'.out _ hB'.out) Tryz.underlying27 rfl rfl ?_) | (refine wpList_load_guard rfl 27 _ rfl bb (o + k * 20) rfl _ _ (hrgB'.out _ hB'.out) Tryz.underlying27 rfl rfl ?_))
        go_at_call 34
        refine (hdc'.out _).mono ?_
        rintro e w1 ⟨rfl, hb1⟩
        have hB1 := Lib.hid (hB'.out.trans (hb1.mono hB'.out.size))
        have hO1 : Hid (OwnS w1 w.heap.size _ out0) := ownsRow_block hO'.out fun g _ hg => hb1.block g hg
        clear hb1
        by_cases h2 : d ≤ q
        · have hdq : decide (q < d) = false := decide_eq_false (by omega)
          rw [if_pos ⟨h1, h2⟩] at hnextA
          go_wp2_with (refine wpList_load_guard rfl 27 _ rfl bb (o + k * 20) rfl _ _ (hrgB'.out _ hB1.out) Tryz.underlying27 rfl rfl ?_)
          go_at_call 34
          refine (hdc'.out _).mono ?_
          rintro e w2 ⟨rfl, hb2⟩
          have hB2 := Lib.hid (hB1.out.trans (hb2.mono hB1.out.size))
          have hO2 : Hid (OwnS w2 w.heap.size _ out0) := ownsRow_block hO1.out fun g _ hg => hb2.block g hg
          have q17 := hrgB'.out w2 hB2.out 17 _ rfl
          have q18 := hrgB'.out w2 hB2.out 18 _ rfl
          clear hb2
          have hkk : kind = 1 ∨ kind = 2 ∨ kind = 3 := by omega
          rcases hkk with rfl | rfl | rfl
          · have hne : Hid (ns = ev.gs) := hns'.out
            have hg2 : SliceStr w g ns := by rw [hne.out]; exact hg'.out
            obtain ⟨xa0, xc0, rfl, _⟩ := hg2.form
            have hg2' := Lib.hid hg2
            clear hg2 q18
            go_wp2_with fail
            have hS0 := Lib.hid (show Below w.heap.size w w2 ∧ SliceStr w2 (.slice xa0 ns.length xc0) ns ∧ OwnS w2 w.heap.size _ out0 from ⟨hB2.out, hg2'.out.below hB2.out, hO2.out⟩)
            clear q17
            go_loopw [9, 12] (fun u j wq => ∃ n : Nat, n ≤ ns.length ∧ j = .int .i64 n ∧ Below w.heap.size w wq ∧ SliceStr wq (.slice xa0 ns.length xc0) ns ∧ OwnS wq w.heap.size u ((ns.take n).foldl insS out0)) (fun _ j _ => ns.length - (intOf j).toNat)
            case atStart => exact ⟨0, by omega, rfl, hS0.out.1, hS0.out.2.1, hS0.out.2.2⟩
            case round =>
              obtain ⟨n, hn0, rfl, hB, hx, hO⟩ := hrel
              have hB' := Lib.hid hB
              have hx' := Lib.hid hx
              have hO' := Lib.hid hO
              clear hB hx hO
              have hnl2 : ns.length ≤ 50 := hnl.out
              by_cases hn : n < ns.length
              · obtain ⟨xa, xc, hform, hcells⟩ := hx'.out.form
                cases hform
                obtain ⟨bx, ox, rfl, hc⟩ := hcells n hn
                obtain ⟨z, hz⟩ : ∃ z, z = ns.getD n ByteArray.empty := ⟨_, rfl⟩
                rw [← hz] at hc
                have hnext : Hid ((ns.take (n + 1)).foldl insS out0 = insS ((ns.take n).foldl insS out0) z) := by show _ = _; rw [take_getD (d := ByteArray.empty) hn, List.foldl_append, hz]; rfl
                have hle := foldIns_len (ns.take n) out0
                rw [List.length_take, Nat.min_eq_left hn0] at hle
                obtain ⟨cur, hcur⟩ : ∃ c, c = (ns.take n).foldl insS out0 := ⟨_, rfl⟩
                rw [← hcur] at hO' hnext hle
                have hcl : cur.length ≤ 100000 := by have := hol.out; have := hnl.out; omega
                clear hz hcells hle hcur
                go_wp2_with (go_at_call 37; fail)
                refine (insert_any _ cur z _ w.heap.size hO'.out hB'.out.size hcl).mono ?_
                rintro e w9 ⟨u, rfl, hO9, hb9⟩
                have hO9' := Lib.hid hO9
                have hb9' := Lib.hid hb9
                clear hO9 hb9
                go_wp2_with fail
                exact ⟨⟨n + 1, by omega, by go_num, hB'.out.trans (hb9'.out.mono hB'.out.size), hx'.out.below hb9'.out, by rw [hnext.out]; exact hO9'.out⟩, by simp [intOf]; omega⟩
              · obtain rfl : n = ns.length := by omega
                rw [List.take_length] at hO'
                go_wp2_with fail
                exact ⟨⟨k + 1, by omega, by go_num, hB'.out, by rw [hnextA.out]; exact hO'.out⟩, by simp [intOf]; omega⟩
          · have hne : Hid (ns = ev.ss) := hns'.out
            have hg2 : SliceStr w sv ns := by rw [hne.out]; exact hs'.out
            obtain ⟨xa0, xc0, rfl, _⟩ := hg2.form
            have hg2' := Lib.hid hg2
            clear hg2
            go_wp2_with fail
            have hS0 := Lib.hid (show Below w.heap.size w w2 ∧ SliceStr w2 (.slice xa0 ns.length xc0) ns ∧ OwnS w2 w.heap.size _ out0 from ⟨hB2.out, hg2'.out.below hB2.out, hO2.out⟩)
            clear q17 q18
            go_loopw [9, 12] (fun u j wq => ∃ n : Nat, n ≤ ns.length ∧ j = .int .i64 n ∧ Below w.heap.size w wq ∧ SliceStr wq (.slice xa0 ns.length xc0) ns ∧ OwnS wq w.heap.size u ((ns.take n).foldl insS out0)) (fun _ j _ => ns.length - (intOf j).toNat)
            case atStart => exact ⟨0, by omega, rfl, hS0.out.1, hS0.out.2.1, hS0.out.2.2⟩
            case round =>
              obtain ⟨n, hn0, rfl, hB, hx, hO⟩ := hrel
              have hB' := Lib.hid hB
              have hx' := Lib.hid hx
              have hO' := Lib.hid hO
              clear hB hx hO
              have hnl2 : ns.length ≤ 50 := hnl.out
              by_cases hn : n < ns.length
              · obtain ⟨xa, xc, hform, hcells⟩ := hx'.out.form
                cases hform
                obtain ⟨bx, ox, rfl, hc⟩ := hcells n hn
                obtain ⟨z, hz⟩ : ∃ z, z = ns.getD n ByteArray.empty := ⟨_, rfl⟩
                rw [← hz] at hc
                have hnext : Hid ((ns.take (n + 1)).foldl insS out0 = insS ((ns.take n).foldl insS out0) z) := by show _ = _; rw [take_getD (d := ByteArray.empty) hn, List.foldl_append, hz]; rfl
                have hle := foldIns_len (ns.take n) out0
                rw [List.length_take, Nat.min_eq_left hn0] at hle
                obtain ⟨cur, hcur⟩ : ∃ c, c = (ns.take n).foldl insS out0 := ⟨_, rfl⟩
                rw [← hcur] at hO' hnext hle
                have hcl : cur.length ≤ 100000 := by have := hol.out; have := hnl.out; omega
                clear hz hcells hle hcur
                go_wp2_with (go_at_call 37; fail)
                refine (insert_any _ cur z _ w.heap.size hO'.out hB'.out.size hcl).mono ?_
                rintro e w9 ⟨u, rfl, hO9, hb9⟩
                have hO9' := Lib.hid hO9
                have hb9' := Lib.hid hb9
                clear hO9 hb9
                go_wp2_with fail
                exact ⟨⟨n + 1, by omega, by go_num, hB'.out.trans (hb9'.out.mono hB'.out.size), hx'.out.below hb9'.out, by rw [hnext.out]; exact hO9'.out⟩, by simp [intOf]; omega⟩
              · obtain rfl : n = ns.length := by omega
                rw [List.take_length] at hO'
                go_wp2_with fail
                exact ⟨⟨k + 1, by omega, by go_num, hB'.out, by rw [hnextA.out]; exact hO'.out⟩, by simp [intOf]; omega⟩
          · have hrow : w2.rangeAt bb (o + k * 20 + 1) [v1, v2, v3, v4, v5, v6, v7, v8, v9, v10, v11, v12, v13, v14, v15, v16] := fun j v hj => by
              have := hrgB'.out w2 hB2.out (j + 1) v (show ([v1, v2, v3, v4, v5, v6, v7, v8, v9, v10, v11, v12, v13, v14, v15, v16] ++ [g, sv, .int .i64 b])[j]? = some v by rw [List.getElem?_append_left (List.getElem?_eq_some_iff.1 hj).1]; exact hj)
              rw [show o + k * 20 + 1 + j = o + k * 20 + (j + 1) by omega]; exact this
            have hrow' := Lib.hid hrow
            clear hrow
            go_wp2_with (refine wpList_load_mid rfl 24 _ rfl bb (o + k * 20 + 1) rfl _ _ hrow'.out Tryz.underlying24 rfl rfl ?_)
            go_at_call 29
            refine (refauthor_lit v1 v2 v3 v4 v5 v6 v7 v8 v9 v10 v11 v12 v13 v14 v15 v16 ev.au hau'.out _).mono ?_
            rintro e w6 ⟨rfl, hb6⟩
            obtain ⟨tx, htx⟩ : ∃ t, t = auText ev.au := ⟨_, rfl⟩
            have hne : ns = [tx] := by rw [hns'.out, htx]; rfl
            subst hne
            rw [← htx]
            have htz : tx.size ≤ 9223372036854775807 := by rw [htx]; exact auText_le (by have := congrArg List.length hau'.out; simpa [byteVals] using this.symm)
            have hB6 := Lib.hid (hB2.out.trans (hb6.mono hB2.out.size))
            have hO6 : Hid (OwnS w6 w.heap.size _ out0) := ownsRow_block hO2.out fun g _ hg => hb6.block g hg
            clear hb6 htx q17 q18
            have hsl0 : SliceStr (w6.alloc (.cells #[.string tx] 9)) (.slice (some ⟨w6.heap.size, 0, none⟩) [tx].length 1) [tx] := by
              refine Or.inr ⟨w6.heap.size, 0, 1, rfl, Nat.le_refl 1, ⟨by decide, by show 1 ≤ 9223372036854775807; decide⟩, by simp, fun k hk => ?_, fun z hz => ?_⟩
              · obtain rfl : k = 0 := by simp at hk; omega
                rw [cell_of_row _ _ _ _ _ _ (heap_alloc_new w6 _)]; rfl
              · rw [List.mem_singleton.1 hz]; exact htz
            obtain ⟨W7, hW7⟩ : ∃ W7, W7 = w6.alloc (.cells #[.string tx] 9) := ⟨_, rfl⟩
            have hS0 := Lib.hid (show Below w.heap.size w W7 ∧ SliceStr W7 (.slice (some ⟨w6.heap.size, 0, none⟩) [tx].length 1) [tx] ∧ OwnS W7 w.heap.size _ out0 from ⟨by rw [hW7]; exact hB6.out.alloc hB6.out.size _, by rw [hW7]; exact hsl0, by rw [hW7]; exact hO6.out.alloc _⟩)
            have hW7' := Lib.hid hW7
            clear hsl0 htz hW7
            go_wp2_with fail
            rw [← hW7'.out]
            go_loopw [9, 12] (fun u j wq => ∃ n : Nat, n ≤ 1 ∧ j = .int .i64 n ∧ Below w.heap.size w wq ∧ SliceStr wq (.slice (some ⟨w6.heap.size, 0, none⟩) [tx].length 1) [tx] ∧ OwnS wq w.heap.size u (([tx].take n).foldl insS out0)) (fun _ j _ => 1 - (intOf j).toNat)
            case atStart => exact ⟨0, by omega, rfl, hS0.out.1, hS0.out.2.1, hS0.out.2.2⟩
            case round =>
              obtain ⟨n, hn0, rfl, hB, hx, hO⟩ := hrel
              have hB' := Lib.hid hB
              have hx' := Lib.hid hx
              have hO' := Lib.hid hO
              clear hB hx hO
              by_cases hn : n < 1
              · obtain rfl : n = 0 := by omega
                obtain ⟨xa, xc, hform, hcells⟩ := hx'.out.form
                cases hform
                obtain ⟨bx, ox, hbx, hc⟩ := hcells 0 (by simp)
                cases hbx
                have hc1 := show World.cell? _ ⟨w6.heap.size, 0, none⟩ = some (.string tx) from hc
                have hcl : out0.length ≤ 100000 := by have := hol.out; omega
                clear hcells hc
                go_wp2_with (go_at_call 37; fail)
                refine (insert_any _ out0 tx _ w.heap.size hO'.out hB'.out.size hcl).mono ?_
                rintro e w9 ⟨u, rfl, hO9, hb9⟩
                have hO9' := Lib.hid hO9
                have hb9' := Lib.hid hb9
                clear hO9 hb9
                go_wp2_with fail
                exact ⟨⟨1, by omega, by go_num, hB'.out.trans (hb9'.out.mono hB'.out.size), hx'.out.below hb9'.out, hO9'.out⟩, by simp [intOf]⟩
              · obtain rfl : n = 1 := by omega
                go_wp2_with fail
                exact ⟨⟨k + 1, by omega, by go_num, hB'.out, by rw [hnextA.out]; exact hO'.out⟩, by simp [intOf]; omega⟩
        · have hdq : decide (q < d) = true := decide_eq_true (by omega)
          rw [if_neg (by omega)] at hnextA
          go_wp2_with (first | (refine wpList_load_guard rfl 27 _ rfl bb (o + k * 20) rfl _ _ (hrgB'.out _ hB1.out) Tryz.underlying27 rfl rfl ?_))
          go_at_call 34
          refine (hdc'.out _).mono ?_
          rintro e w2 ⟨rfl, hb2⟩
          have hB2 := Lib.hid (hB1.out.trans (hb2.mono hB1.out.size))
          have hO2 : Hid (OwnS w2 w.heap.size _ out0) := ownsRow_block hO1.out fun g _ hg => hb2.block g hg
          clear hb2
          go_wp2_with fail
          exact ⟨⟨k + 1, by omega, by go_num, hB2.out, by rw [hnextA.out]; exact hO2.out⟩, by simp [intOf]; omega⟩
      · have hdp : decide (d < p) = true := decide_eq_true (by omega)
        rw [if_neg (by omega)] at hnextA
        go_wp2_with (first | (refine wpList_load_mid rfl 27 _ rfl bb (o + k * 20) rfl _ _ (hrgB'.out _ hB'.out) Tryz.underlying27 rfl rfl ?_))
        go_at_call 34
        refine (hdc'.out _).mono ?_
        rintro e w1 ⟨rfl, hb1⟩
        have hB1 := Lib.hid (hB'.out.trans (hb1.mono hB'.out.size))
        have hO1 : Hid (OwnS w1 w.heap.size _ out0) := ownsRow_block hO'.out fun g _ hg => hb1.block g hg
        clear hb1
        go_wp2_with fail
        exact ⟨⟨k + 1, by omega, by go_num, hB1.out, by rw [hnextA.out]; exact hO1.out⟩, by simp [intOf]; omega⟩
    · obtain rfl : k = es.length := by omega
      rw [List.take_length] at hO'
      go_wp2_with fail
      go_ret
      exact ⟨_, rfl, hO'.out, hB'.out⟩
end Go.Proofs.YtlemadbmlnjhpaaGreatDoor
