/- The model's text. (Printed by wip/gen_mtext.py.) -/
import Derived.Test.YtlemadbmlnjhpaaGreatDoorH6
namespace Go.Proofs.YtlemadbmlnjhpaaGreatDoor
open Go Go.RowKit Go.Proofs
set_option linter.unusedSimpArgs false
set_option linter.unusedVariables false

set_option maxRecDepth 100000 in
set_option maxHeartbeats 6400000 in
theorem mtext_any (v : Value) (es : List Ev) (before : Int) (w : World) (hv : SliceEv w v es) (hok : ∀ e ∈ es, e.err = 0) (hau : ∀ e ∈ es, e.au.length = 16) (hl : es.length ≤ 1000) :
    Calls Tryz.prog 21 #[v, .int .i64 before] w fun e w' => e = .returned (bytesV (textM es before)) ∧ Below w.heap.size w w' := by
  have hv' := Lib.hid hv
  have hok' := Lib.hid hok
  have hau' := Lib.hid hau
  clear hv hok hau
  go_enter Tryz.func21, Tryz.ntmps21
  go_wp2_with (go_at_call 15; fail)
  refine (mdays_any v es w hv'.out hok'.out hl).mono ?_
  rintro e w1 ⟨dv, rfl, hdv, hb1⟩
  obtain ⟨ds, hds⟩ : ∃ ds, ds = daysM es := ⟨_, rfl⟩
  have hdl : ds.length ≤ 1000 := by rw [hds]; exact Nat.le_trans (daysM_len _ es rfl) hl
  have hdb : ∀ d ∈ ds, 0 ≤ d ∧ d ≤ 100000 := fun d hd => by
    rw [hds] at hd
    obtain ⟨e, he, rfl⟩ := ((daysM_facts _ es rfl).2 d).1 hd
    obtain ⟨⟨h1, h2⟩, _⟩ := Ev.ok (hok'.out e he)
    omega
  rw [← hds] at hdv
  obtain ⟨da, dc, rfl, _, _⟩ := hdv.form
  obtain ⟨W2, hW2⟩ : ∃ W2, W2 = w1.alloc (.cells wordsA 9) := ⟨_, rfl⟩
  obtain ⟨wb, hwb⟩ : ∃ wb, wb = w1.heap.size := ⟨_, rfl⟩
  have hA0 : TxtAt w W2 (.slice da ds.length dc) ds wb := by
    rw [hW2, hwb]
    exact ⟨hb1.alloc hb1.size _, hdv.below ((Below.refl _ _).alloc (Nat.le_refl _) _), heap_alloc_new w1 _⟩
  have hA0' := Lib.hid hA0
  have hds' := Lib.hid hds
  have hdb' := Lib.hid hdb
  have hW2' := Lib.hid hW2
  have hwb' := Lib.hid hwb
  clear hb1 hdv hA0 hds hdb hW2 hwb
  go_wp2_with fail
  rw [← hwb'.out, ← hW2'.out]
  go_loopw [5, 8] (fun s i wr => ∃ k : Nat, k ≤ ds.length ∧ i = .int .i64 k ∧ s = bytesV ((ds.take k).flatMap (dayM es before)) ∧ ((ds.take k).flatMap (dayM es before)).length ≤ 1000000000 * k ∧ TxtAt w wr (.slice da ds.length dc) ds wb) (fun _ i _ => ds.length - (intOf i).toNat)
  case atStart => exact ⟨0, by omega, rfl, rfl, by simp, hA0'.out⟩
  case round =>
    obtain ⟨k, hk0, rfl, rfl, hsl, hA⟩ := hrel
    obtain ⟨s, hs⟩ : ∃ s, s = (ds.take k).flatMap (dayM es before) := ⟨_, rfl⟩
    rw [← hs] at hsl ⊢
    have hA' := Lib.hid hA
    have hs' := Lib.hid hs
    clear hA hs
    by_cases hk : k < ds.length
    · obtain ⟨d, hd⟩ : ∃ d, d = ds.getD k 0 := ⟨_, rfl⟩
      have hdm : d ∈ ds := by rw [hd, List.getD_eq_getElem?_getD, List.getElem?_eq_getElem hk, Option.getD_some]; exact List.getElem_mem _
      obtain ⟨hd0, hd1⟩ := hdb'.out d hdm
      have hnextD : Hid ((ds.take (k + 1)).flatMap (dayM es before) = s ++ dayM es before d) := by show _ = _; rw [take_getD (d := 0) hk, List.flatMap_append, hs'.out, hd]; simp
      obtain ⟨da', dc', hform, _, hcells⟩ := hA'.out.days.form
      cases hform
      obtain ⟨bd, od, rfl, hc⟩ := hcells k hk
      have hbd : bd < wr.heap.size := World.block_lt_of_cell? _ _ hc
      rw [← hd] at hc
      have hvr := Lib.hid (hv'.out.below hA'.out.bel)
      have hcnt := ofM_bound 0 ⟨#[]⟩ d d _ es rfl hok'.out
      obtain ⟨c1, hc1⟩ : ∃ c, c = (ofM es 0 ⟨#[]⟩ d d).1 := ⟨_, rfl⟩
      obtain ⟨c2, hc2⟩ : ∃ c, c = (ofM es 0 ⟨#[]⟩ d d).2 := ⟨_, rfl⟩
      have hcc : Hid (ofM es 0 ByteArray.empty d d = (c1, c2)) := by show _ = _; rw [hc1, hc2]; rfl
      have n2 := fun W (h : Below wr.heap.size wr W) => mof_any v es 0 ⟨#[]⟩ d d W (hvr.out.below h) hok'.out hl
      rw [← hc1, ← hc2] at hcnt n2
      obtain ⟨q1, q2, q3, q4⟩ := hcnt
      have n1 := fun W => number_any d W hd0 (by omega)
      obtain ⟨I, hI⟩ : ∃ I, I = Lib.itoa d := ⟨_, rfl⟩
      have hIl := Lib.itoa_length_le d (by omega) (by omega)
      obtain ⟨s1, hs1⟩ : ∃ x, x = wDay ++ [32] ++ I := ⟨_, rfl⟩
      rw [← hI] at n1 hIl
      have hs1l : s1.length ≤ 100 := by rw [hs1]; simp [wDay]; omega
      have n3 := fun W => line_any s1 c1 c2 W (by omega) ⟨q1, by omega⟩ ⟨q3, by omega⟩
      have hll := lineM_len s1 (c := (c1, c2)) ⟨q1, by omega⟩ ⟨q3, by omega⟩
      obtain ⟨l1, hl1⟩ : ∃ x, x = lineM s1 (c1, c2) := ⟨_, rfl⟩
      rw [← hl1] at n3 hll
      have a1 := fun W => add_lists [100, 97, 121, 32] I (by simp; omega) W
      have a2 := fun W => add_lists s l1 (by omega) W
      have e1 : [100, 97, 121, 32] ++ I = s1 := by rw [hs1]; rfl
      rw [e1] at a1
      obtain ⟨s2, hs2⟩ : ∃ x, x = s ++ l1 := ⟨_, rfl⟩
      rw [← hs2] at a2
      have hs2l : s2.length ≤ 1000000000 * k + 160 := by rw [hs2, List.length_append]; omega
      have n1' := Lib.hid n1
      have n2' := Lib.hid n2
      have n3' := Lib.hid n3
      have hs2' := Lib.hid hs2
      have hl1' := Lib.hid hl1
      have hs1' := Lib.hid hs1
      have hI' := Lib.hid hI
      have hd' := Lib.hid hd.symm
      clear hd hdm hcells hc1 hc2 n1 n2 n3 hI hs1 hl1 hs2 e1
      have hbW : Below wr.heap.size wr wr := Below.refl _ _
      go_wp2_with fail
      go_region_held3 (fun W' => Below wr.heap.size wr W' ∧ W'.cell? ⟨bd, od + k, none⟩ = some (.int .i64 d)) (refine ⟨?_, ?_⟩ <;> first | assumption | exact (by assumption : Below _ _ _).drew)
        (first
          | (go_at_call 44; refine (n1'.out _).mono ?_; rintro e W1 ⟨rfl, hb1⟩; have hq1 : Below wr.heap.size wr W1 := Below.trans (by first | assumption | exact And.left (by assumption)) (hb1.mono (Below.size (w := wr) (B := wr.heap.size) (by first | assumption | exact And.left (by assumption)))); have hd0 := (hq1.cell (p := ⟨bd, od + k, none⟩) hbd).trans hc; clear hb1)
          | (go_at_call 12; refine (n2'.out _ (by first | assumption | exact And.left (by assumption))).mono ?_; rintro e W1 ⟨rfl, hb1⟩; have hq1 : Below wr.heap.size wr W1 := Below.trans (by first | assumption | exact And.left (by assumption)) (hb1.mono (Below.size (w := wr) (B := wr.heap.size) (by first | assumption | exact And.left (by assumption)))); have hd0 := (hq1.cell (p := ⟨bd, od + k, none⟩) hbd).trans hc; clear hb1)
          | (go_at_call 43; refine (n3'.out _).mono ?_; rintro e W1 ⟨rfl, hb1⟩; have hq1 : Below wr.heap.size wr W1 := Below.trans (by first | assumption | exact And.left (by assumption)) (hb1.mono (Below.size (w := wr) (B := wr.heap.size) (by first | assumption | exact And.left (by assumption)))); have hd0 := (hq1.cell (p := ⟨bd, od + k, none⟩) hbd).trans hc; clear hb1))
      have hA1' := Lib.hid (hA'.out.below hq1)
      clear hq1 hd0 hbW hc
      go_wp2_with fail
      go_loopw [5, 9] (fun t i wq => ∃ kn : Nat, (1 ≤ kn ∧ kn ≤ 4) ∧ i = .int .i64 kn ∧ t = bytesV (s2 ++ namesTo es d kn) ∧ (s2 ++ namesTo es d kn).length ≤ 1000000000 * k + 160 + 200000000 * (kn - 1) ∧ TxtAt w wq (.slice (some ⟨bd, od, none⟩) ds.length dc) ds wb ∧ (before ≤ d ∨ kn = 1)) (fun _ i _ => 4 - (intOf i).toNat)
      case atStart => exact ⟨1, by omega, rfl, by simp [namesTo], by simp [namesTo]; omega, hA1'.out, Or.inr rfl⟩
      case round =>
        obtain ⟨kn, ⟨hkn1, hkn4⟩, rfl, rfl, htl, hA, hbk⟩ := hrel
        have hA2' := Lib.hid hA
        clear hA
        obtain ⟨s3, hs3⟩ : ∃ x, x = s2 ++ namesTo es d kn := ⟨_, rfl⟩
        rw [← hs3] at htl ⊢
        have hs3' := Lib.hid hs3
        clear hs3
        have hdc : wr.cell? ⟨bd, od + k, none⟩ = some (.int .i64 d) := by
          obtain ⟨da', dc', hform, _, hcells⟩ := hA2'.out.days.form
          cases hform
          obtain ⟨bd', od', hbo, hc⟩ := hcells k hk
          cases hbo
          rw [hc, hd'.out]
        by_cases hk4 : kn = 4
        · subst hk4
          have hend : Hid (dayM es before d = l1 ++ namesTo es d 4) := by show _ = _; rw [dayM_eq es before d 4 (by omega) (Or.inl rfl) hbk, hcc.out, hl1'.out, hs1'.out, hI'.out]
          clear hdc
          go_wp2_with fail
          refine ⟨⟨k + 1, by omega, by go_num, ?_, ?_, hA2'.out⟩, by simp [intOf]; omega⟩
          · rw [hnextD.out, hend.out, hs3'.out, hs2'.out, List.append_assoc]
          · rw [hnextD.out, hend.out, ← List.append_assoc, ← hs2'.out, ← hs3'.out]; omega
        · by_cases hbd2 : before ≤ d
          · -- the names of a kind
            have hk3 : kn ≤ 3 := by omega
            obtain ⟨ns, hns⟩ : ∃ ns, ns = allM es kn d d := ⟨_, rfl⟩
            have hnl : ns.length ≤ 50000 := by rw [hns]; have := allM_len kn d d _ es rfl hok'.out; omega
            have hnz : ∀ z ∈ ns, z.size ≤ 1000 := by rw [hns]; exact name_size hok'.out hau'.out (by omega) (by omega)
            have hvq := Lib.hid (hv'.out.below hA2'.out.bel)
            have m1 := fun W (h : Below wr.heap.size wr W) => all_any v es kn d d W (hvq.out.below h) hok'.out hl (by omega) (by omega)
            rw [← hns] at m1
            have m1' := Lib.hid m1
            have hns' := Lib.hid hns
            have hnz' := Lib.hid hnz
            clear m1 hns hnz
            have hbW : Below wr.heap.size wr wr := Below.refl _ _
            have hbd3 : bd < wr.heap.size := World.block_lt_of_cell? _ _ hdc
            go_wp2_with fail
            go_region_held3 (fun W' => Below wr.heap.size wr W' ∧ W'.cell? ⟨bd, od + k, none⟩ = some (.int .i64 d)) (refine ⟨?_, ?_⟩ <;> first | assumption | exact (by assumption : Below _ _ _).drew)
              (first
                | (go_at_call 18; refine (m1'.out _ (by first | assumption | exact And.left (by assumption))).mono ?_; rintro e W1 ⟨u, rfl, hOu, hb1⟩; have hq1 : Below wr.heap.size wr W1 := Below.trans (by first | assumption | exact And.left (by assumption)) (hb1.mono (Below.size (w := wr) (B := wr.heap.size) (by first | assumption | exact And.left (by assumption)))); have hO1 : OwnS W1 wr.heap.size u ns := ownsRow_base_a hOu (Below.size (w := wr) (B := wr.heap.size) (by first | assumption | exact And.left (by assumption))); have hd0 := (hq1.cell (p := ⟨bd, od + k, none⟩) hbd3).trans hdc; clear hb1 hOu))
            have hA3' := Lib.hid (hA2'.out.below hq1)
            obtain ⟨bq, hbq⟩ : ∃ b, b = wr.heap.size := ⟨_, rfl⟩
            rw [← hbq] at hO1
            obtain ⟨na, nc, rfl, _⟩ := hO1.form
            have hO1' := Lib.hid hO1
            clear hq1 hd0 hbW hdc hO1 hbq
            have hnext3 : Hid (s2 ++ namesTo es d (kn + 1) = s3 ++ ns.flatMap (fun n => lineM (kindWord kn ++ [32] ++ n.data.toList) (ofM es kn n d d))) := by
              show _ = _
              rw [namesTo_succ es d hkn1, ← List.append_assoc, ← hs3'.out, hns'.out]; rfl
            obtain ⟨lf, hlf⟩ : ∃ lf : ByteArray → List UInt8, lf = fun n => lineM (kindWord kn ++ [32] ++ n.data.toList) (ofM es kn n d d) := ⟨_, rfl⟩
            rw [← hlf] at hnext3
            have hlf' := Lib.hid hlf
            clear hlf
            go_wp2_with fail
            go_loopw [5, 11] (fun t i wq => ∃ n : Nat, n ≤ ns.length ∧ i = .int .i64 n ∧ t = bytesV (s3 ++ (ns.take n).flatMap lf) ∧ (s3 ++ (ns.take n).flatMap lf).length ≤ 1000000000 * k + 160 + 200000000 * (kn - 1) + 2000 * n ∧ TxtAt w wq (.slice (some ⟨bd, od, none⟩) ds.length dc) ds wb ∧ OwnS wq bq (.slice na ns.length nc) ns) (fun _ i _ => ns.length - (intOf i).toNat)
            case atStart => exact ⟨0, by omega, rfl, by simp, by simp; omega, hA3'.out, hO1'.out⟩
            case round =>
              obtain ⟨n, hn0, rfl, rfl, htl3, hA, hO⟩ := hrel
              have hA4' := Lib.hid hA
              have hO4' := Lib.hid hO
              clear hA hO
              obtain ⟨s4, hs4⟩ : ∃ x, x = s3 ++ (ns.take n).flatMap lf := ⟨_, rfl⟩
              rw [← hs4] at htl3 ⊢
              have hs4' := Lib.hid hs4
              clear hs4
              by_cases hn : n < ns.length
              · have hnext4 : Hid (s3 ++ (ns.take (n + 1)).flatMap lf = s4 ++ lf (ns.getD n ByteArray.empty)) := by show _ = _; rw [take_getD (d := ByteArray.empty) hn, List.flatMap_append, ← List.append_assoc, ← hs4'.out]; simp
                have hzs := hnz'.out _ (getD_mem_of (d := ByteArray.empty) hn)
                have hzc := hO4'.out.form
                obtain ⟨z, hz⟩ : ∃ z, z = ns.getD n ByteArray.empty := ⟨_, rfl⟩
                have hnc : ∃ b o, na = some ⟨b, o, none⟩ ∧ wr.cell? ⟨b, o + n, none⟩ = some (.string z) := by
                  obtain ⟨na', nc', hform, hcells⟩ := hzc
                  cases hform
                  rw [hz]; exact hcells n hn
                rw [← hz] at hnext4 hzs
                clear hzc hz
                obtain ⟨bn, on, rfl, hnc⟩ := hnc
                obtain ⟨zl, rfl⟩ := bytes_list z
                have hlfz : Hid (lf ⟨zl.toArray⟩ = lineM (kindWord kn ++ [32] ++ zl) (ofM es kn ⟨zl.toArray⟩ d d)) := by show _ = _; rw [hlf'.out]
                have hwc := hA4'.out.word hkn1 hk3
                have b1 : (0 : Int) ≤ (kn : Int) := by omega
                have b2 : (kn : Int) < 4 := by omega
                have hdc : wr.cell? ⟨bd, od + k, none⟩ = some (.int .i64 d) := by
                  obtain ⟨da', dc', hform, _, hcells⟩ := hA4'.out.days.form
                  cases hform
                  obtain ⟨bd', od', hbo, hc⟩ := hcells k hk
                  cases hbo
                  rw [hc, hd'.out]
                have hzl : zl.length ≤ 1000 := by simpa [ByteArray.size] using hzs
                have hvr := Lib.hid (hv'.out.below hA4'.out.bel)
                have hcnt := ofM_bound kn ⟨zl.toArray⟩ d d _ es rfl hok'.out
                obtain ⟨x1, hx1⟩ : ∃ c, c = (ofM es kn ⟨zl.toArray⟩ d d).1 := ⟨_, rfl⟩
                obtain ⟨x2, hx2⟩ : ∃ c, c = (ofM es kn ⟨zl.toArray⟩ d d).2 := ⟨_, rfl⟩
                have hxx : ofM es kn ⟨zl.toArray⟩ d d = (x1, x2) := by rw [hx1, hx2]
                have n2 := fun W (h : Below wr.heap.size wr W) => mof_any v es kn ⟨zl.toArray⟩ d d W (hvr.out.below h) hok'.out hl
                rw [hxx] at hlfz
                rw [← hx1, ← hx2] at hcnt n2
                obtain ⟨r1, r2, r3, r4⟩ := hcnt
                have hkwl := kindWord_len1 kn
                obtain ⟨wd, hwd⟩ : ∃ x, x = kindWord kn ++ [32] := ⟨_, rfl⟩
                rw [← hwd] at hlfz hwc hkwl
                obtain ⟨t1, ht1⟩ : ∃ x, x = wd ++ zl := ⟨_, rfl⟩
                have ht1l : t1.length ≤ 1010 := by rw [ht1, List.length_append]; omega
                rw [← ht1] at hlfz
                have n3 := fun W => line_any t1 x1 x2 W (by omega) ⟨r1, by omega⟩ ⟨r3, by omega⟩
                have hll := lineM_len t1 (c := (x1, x2)) ⟨r1, by omega⟩ ⟨r3, by omega⟩
                obtain ⟨l2, hl2⟩ : ∃ x, x = lineM t1 (x1, x2) := ⟨_, rfl⟩
                rw [← hl2] at n3 hll hlfz
                have a1 := fun W => add_lists wd zl (by omega) W
                have a2 := fun W => add_lists s4 l2 (by omega) W
                rw [← ht1] at a1
                obtain ⟨s5, hs5⟩ : ∃ x, x = s4 ++ l2 := ⟨_, rfl⟩
                rw [← hs5] at a2
                have hs5l : s5.length ≤ 1000000000 * k + 160 + 200000000 * (kn - 1) + 2000 * (n + 1) := by rw [hs5, List.length_append]; omega
                rw [hlfz.out, ← hs5] at hnext4
                have n2' := Lib.hid n2
                have n3' := Lib.hid n3
                clear n2 n3 hx1 hx2 hxx hwd ht1 hl2 hs5 hlfz hzs
                have hbW : Below wr.heap.size wr wr := Below.refl _ _
                have g1 : bd < wr.heap.size := World.block_lt_of_cell? _ _ hdc
                have g2 : bn < wr.heap.size := World.block_lt_of_cell? _ _ hnc
                have g3 : wb < wr.heap.size := World.block_lt_of_cell? _ _ hwc
                go_wp2_with fail
                go_region_held3 (fun W' => Below wr.heap.size wr W' ∧ W'.cell? ⟨bd, od + k, none⟩ = some (.int .i64 d) ∧ W'.cell? ⟨bn, on + n, none⟩ = some (.string ⟨zl.toArray⟩) ∧ W'.cell? ⟨wb, kn, none⟩ = some (bytesV wd)) (refine ⟨?_, ?_, ?_, ?_⟩ <;> first | assumption | exact (by assumption : Below _ _ _).drew)
                  (first
                    | (go_at_call 12; refine (n2'.out _ (by first | assumption | exact And.left (by assumption))).mono ?_; rintro e W1 ⟨rfl, hb1⟩; have hq1 : Below wr.heap.size wr W1 := Below.trans (by first | assumption | exact And.left (by assumption)) (hb1.mono (Below.size (w := wr) (B := wr.heap.size) (by first | assumption | exact And.left (by assumption)))); have hd0 := (hq1.cell (p := ⟨bd, od + k, none⟩) g1).trans hdc; have hd1 := (hq1.cell (p := ⟨bn, on + n, none⟩) g2).trans hnc; have hd2 := (hq1.cell (p := ⟨wb, kn, none⟩) g3).trans hwc; clear hb1)
                    | (go_at_call 43; refine (n3'.out _).mono ?_; rintro e W1 ⟨rfl, hb1⟩; have hq1 : Below wr.heap.size wr W1 := Below.trans (by first | assumption | exact And.left (by assumption)) (hb1.mono (Below.size (w := wr) (B := wr.heap.size) (by first | assumption | exact And.left (by assumption)))); have hd0 := (hq1.cell (p := ⟨bd, od + k, none⟩) g1).trans hdc; have hd1 := (hq1.cell (p := ⟨bn, on + n, none⟩) g2).trans hnc; have hd2 := (hq1.cell (p := ⟨wb, kn, none⟩) g3).trans hwc; clear hb1))
                have hA5' := Lib.hid (hA4'.out.below hq1)
                have hO5' := Lib.hid (hO4'.out.below hq1)
                clear hq1 hd0 hd1 hd2 hbW hdc hnc hwc
                go_wp2_with fail
                exact ⟨⟨n + 1, by omega, by go_num, by rw [hnext4.out], by rw [hnext4.out]; exact hs5l, hA5'.out, hO5'.out⟩, by simp [intOf]; omega⟩
              · obtain rfl : n = ns.length := by omega
                rw [List.take_length] at hs4'
                go_wp2_with fail
                refine ⟨⟨kn + 1, by omega, by go_num, by rw [hnext3.out, hs4'.out], ?_, hA4'.out, Or.inl hbd2⟩, by simp [intOf]; omega⟩
                rw [hnext3.out, ← hs4'.out]; omega
          · obtain rfl : kn = 1 := by omega
            have hlt : d < before := by omega
            have hend : Hid (dayM es before d = l1 ++ namesTo es d 1) := by show _ = _; rw [dayM_eq es before d 1 (by omega) (Or.inr hlt) (Or.inr rfl), hcc.out, hl1'.out, hs1'.out, hI'.out]
            go_wp2_with fail
            refine ⟨⟨k + 1, by omega, by go_num, ?_, ?_, hA2'.out⟩, by simp [intOf]; omega⟩
            · rw [hnextD.out, hend.out, hs3'.out, hs2'.out, List.append_assoc]
            · rw [hnextD.out, hend.out, ← List.append_assoc, ← hs2'.out, ← hs3'.out]; omega
    · obtain rfl : k = ds.length := by omega
      rw [List.take_length] at hs'
      obtain ⟨zs, hzs⟩ : ∃ zs, zs = szM es := ⟨_, rfl⟩
      have hzl : zs.length = 18 := by rw [hzs]; exact szM_len _
      have hzb : SzN zs 1000000 := by
        have hself : okEvs es = es := List.filter_eq_self.2 fun e he => by simpa using hok'.out e he
        have h1 := addsZ_bnd es noSizes 0 sz_none (by omega)
        rw [addsZ_szM, hself, ← hzs] at h1
        exact fun z hz => by have := h1 z hz; omega
      obtain ⟨z0, z1, z2, z3, z4, z5, z6, z7, z8, z9, z10, z11, z12, z13, z14, z15, z16, z17, hz18⟩ := list18 zs hzl
      have msz := fun W (h : Below w.heap.size w W) => sizesM_any v es W (hv'.out.below h) hok'.out hl
      rw [← hzs] at msz
      rw [hz18] at msz
      have msz' := Lib.hid msz
      have hzs' := Lib.hid hzs
      have hz18' := Lib.hid hz18
      have hzb' := Lib.hid hzb
      have hzl' := Lib.hid hzl
      clear msz hzs hz18 hzb hzl
      go_wp2_with (go_at_call 17; fail)
      refine (msz'.out _ hA'.out.bel).mono ?_
      rintro e w5 ⟨rfl, hb5⟩
      have hB5 := Lib.hid (hA'.out.bel.trans (hb5.mono hA'.out.bel.size))
      clear hb5
      simp only [List.map_cons, List.map_nil]
      obtain ⟨W6, hW6⟩ : ∃ W6, W6 = w5.alloc (.cells #[.int .i64 z0, .int .i64 z1, .int .i64 z2, .int .i64 z3, .int .i64 z4, .int .i64 z5, .int .i64 z6, .int .i64 z7, .int .i64 z8, .int .i64 z9, .int .i64 z10, .int .i64 z11, .int .i64 z12, .int .i64 z13, .int .i64 z14, .int .i64 z15, .int .i64 z16, .int .i64 z17] 41) := ⟨_, rfl⟩
      obtain ⟨zb, hzb2⟩ : ∃ zb, zb = w5.heap.size := ⟨_, rfl⟩
      have hB6 := Lib.hid (show Below w.heap.size w W6 by rw [hW6]; exact hB5.out.alloc hB5.out.size _)
      have hZ6 : Hid (W6.heap[zb]? = some (.cells (zs.map (Value.int .i64)).toArray 41 (0, 0))) := by show _ = _; rw [hW6, hzb2, hz18'.out]; exact heap_alloc_new w5 _
      have hW6' := Lib.hid hW6
      have hzb2' := Lib.hid hzb2
      clear hW6 hzb2
      go_wp2_with fail
      rw [← hW6'.out, ← hzb2'.out]
      go_loopw [5, 13] (fun t i wq => ∃ n : Nat, n ≤ 18 ∧ i = .int .i64 n ∧ t = bytesV (s ++ linesZ zs n) ∧ (s ++ linesZ zs n).length ≤ 1000000000 * ds.length + 2000 * n ∧ Below w.heap.size w wq ∧ wq.heap[zb]? = some (.cells (zs.map (Value.int .i64)).toArray 41 (0, 0))) (fun _ i _ => 18 - (intOf i).toNat)
      case atStart => exact ⟨0, by omega, rfl, by simp [linesZ], by simp [linesZ]; omega, hB6.out, hZ6.out⟩
      case round =>
        obtain ⟨n, hn0, rfl, rfl, htl, hB, hZ⟩ := hrel
        obtain ⟨s4, hs4⟩ : ∃ x, x = s ++ linesZ zs n := ⟨_, rfl⟩
        rw [← hs4] at htl ⊢
        have hB' := Lib.hid hB
        have hZ' := Lib.hid hZ
        have hs4' := Lib.hid hs4
        clear hB hZ hs4
        by_cases hn : n < 18
        · have hlz : Hid (n < zs.length) := by show _ < _; rw [hzl'.out]; exact hn
          obtain ⟨z, hz⟩ : ∃ z, z = zs.getD n 0 := ⟨_, rfl⟩
          obtain ⟨zb1, zb3⟩ : 0 ≤ z ∧ z ≤ 1000000 := by rw [hz]; exact hzb'.out _ (getD_mem_of hlz.out)
          have hcz : wr.cell? ⟨zb, n, none⟩ = some (.int .i64 z) := by
            rw [cell_of_row _ _ _ _ _ _ hZ'.out, hz]
            simp [List.getElem?_eq_getElem hlz.out, List.getD_eq_getElem?_getD]
          have hnext : Hid (s ++ linesZ zs (n + 1) = s4 ++ (if 0 < z then lineZ n z else [])) := by show _ = _; rw [linesZ_succ, ← List.append_assoc, ← hs4'.out, lineZ0, ← hz]
          clear hz
          by_cases hpos : 0 < z
          · rw [if_pos hpos, lineZ_eq] at hnext
            have n1 := fun (y : Int) W (hy : y = (n : Int) ∨ y = z) => number_any y W (by omega) (by omega)
            have hI1 := Lib.itoa_length_le (n : Int) (by omega) (by omega)
            have hI2 := Lib.itoa_length_le z (by omega) (by omega)
            obtain ⟨t1, ht1⟩ : ∃ x, x = s4 ++ [115, 105, 122, 101, 32] := ⟨_, rfl⟩
            obtain ⟨t2, ht2⟩ : ∃ x, x = t1 ++ Lib.itoa n := ⟨_, rfl⟩
            obtain ⟨t3, ht3⟩ : ∃ x, x = t2 ++ [32] := ⟨_, rfl⟩
            obtain ⟨t4, ht4⟩ : ∃ x, x = t3 ++ Lib.itoa z := ⟨_, rfl⟩
            obtain ⟨t5, ht5⟩ : ∃ x, x = t4 ++ [10] := ⟨_, rfl⟩
            have l1 : t1.length = s4.length + 5 := by rw [ht1]; simp
            have l2 : t2.length ≤ s4.length + 30 := by rw [ht2]; simp; omega
            have l3 : t3.length ≤ s4.length + 31 := by rw [ht3]; simp; omega
            have l4 : t4.length ≤ s4.length + 60 := by rw [ht4]; simp; omega
            have l5 : t5.length ≤ s4.length + 61 := by rw [ht5]; simp; omega
            have a1 := fun W => add_lists s4 [115, 105, 122, 101, 32] (by simp; omega) W
            have a2 := fun W => add_lists t1 (Lib.itoa n) (by omega) W
            have a3 := fun W => add_lists t2 [32] (by simp; omega) W
            have a4 := fun W => add_lists t3 (Lib.itoa z) (by omega) W
            have a5 := fun W => add_lists t4 [10] (by simp; omega) W
            rw [← ht1, ← ht2, ← ht3, ← ht4, ← ht5] at hnext
            rw [← ht1] at a1
            rw [← ht2] at a2
            rw [← ht3] at a3
            rw [← ht4] at a4
            rw [← ht5] at a5
            have hlen : t5.length ≤ 1000000000 * ds.length + 2000 * (n + 1) := by omega
            have n1' := Lib.hid n1
            have hlen' := Lib.hid hlen
            clear n1 ht1 ht2 ht3 ht4 ht5 l1 l2 l3 l4 l5 hI1 hI2 hlen htl
            have g0 : zb < wr.heap.size := (Array.getElem?_eq_some_iff.1 hZ'.out).1
            have b1 : (0 : Int) ≤ (n : Int) := by omega
            have b2 : (n : Int) < 18 := by omega
            have hbW : Below wr.heap.size wr wr := Below.refl _ _
            go_wp2_with fail
            go_region_held3 (fun W' => Below wr.heap.size wr W' ∧ W'.cell? ⟨zb, n, none⟩ = some (.int .i64 z)) (refine ⟨?_, ?_⟩ <;> first | assumption | exact (by assumption : Below _ _ _).drew)
              (first
                | (go_at_call 44; refine (n1'.out _ _ (by first | exact Or.inl rfl | exact Or.inr rfl)).mono ?_; rintro e W1 ⟨rfl, hb1⟩; have hq1 : Below wr.heap.size wr W1 := Below.trans (by first | assumption | exact And.left (by assumption)) (hb1.mono (Below.size (w := wr) (B := wr.heap.size) (by first | assumption | exact And.left (by assumption)))); have hd0 := (hq1.cell (p := ⟨zb, n, none⟩) g0).trans hcz; clear hb1))
            have hB7 := Lib.hid (hB'.out.trans (hq1.mono hB'.out.size))
            have hZ7 := Lib.hid ((hq1.block _ g0).trans hZ'.out)
            clear hq1 hd0 hbW hcz
            go_wp2_with fail
            exact ⟨⟨n + 1, by omega, by go_num, by rw [hnext.out], by rw [hnext.out]; exact hlen'.out, hB7.out, hZ7.out⟩, by simp [intOf]; omega⟩
          · have hnp : z ≤ 0 := by omega
            rw [if_neg hpos, List.append_nil] at hnext
            clear hpos
            go_wp2_with fail
            exact ⟨⟨n + 1, by omega, by go_num, by rw [hnext.out], by rw [hnext.out]; omega, hB'.out, hZ'.out⟩, by simp [intOf]; omega⟩
        · obtain rfl : n = 18 := by omega
          go_wp2_with fail
          go_ret
          exact ⟨by rw [textM, ← hds'.out, ← hzs'.out, ← hs'.out, ← hs4'.out]; rfl, hB'.out⟩
end Go.Proofs.YtlemadbmlnjhpaaGreatDoor
