/- StatsForget: the walk. -/
import Derived.Test.YtlemadbmlnjhpaaGreatDoorLW
import Derived.Test.YtlemadbmlnjhpaaGreatDoorLU
import Derived.Test.YtlemadbmlnjhpaaGreatDoorKJ
import Derived.Test.YtlemadbmlnjhpaaGreatDoorKG
import Derived.Test.YtlemadbmlnjhpaaGreatDoorLD
namespace Go.Proofs.YtlemadbmlnjhpaaGreatDoor
open Go Go.RowKit Go.Proofs
set_option linter.unusedSimpArgs false
set_option linter.unusedVariables false

theorem SliceEv.au16 {w : World} {v : Value} {es : List Ev} (h : SliceEv w v es) : ∀ e ∈ es, e.au.length = 16 := fun e he => by
  obtain ⟨k, hk⟩ := List.getElem?_of_mem he
  rcases h with ⟨_, _, _, rfl⟩ | ⟨bb, o, c, _, _, _, h4⟩
  · simp at he
  · obtain ⟨cs, _, v1, v2, v3, v4, v5, v6, v7, v8, v9, v10, v11, v12, v13, v14, v15, v16, g, sv, _, hau, _⟩ := h4 k e hk
    have := congrArg List.length hau
    simpa [byteVals] using this.symm
/-- how many names of the kinds before a kind -/
def nTo (es : List Ev) (d : Int) : Nat → Nat
  | 0 => 0
  | 1 => 0
  | n + 2 => nTo es d (n + 1) + (allM es (n + 1 : Nat) d d).length
theorem nTo_succ (es : List Ev) (d : Int) {n : Nat} (h : 1 ≤ n) : nTo es d (n + 1) = nTo es d n + (allM es n d d).length := by
  obtain ⟨m, rfl⟩ : ∃ m, n = m + 1 := ⟨n - 1, by omega⟩
  rfl
theorem dayN_eq (es : List Ev) (before d : Int) (kn : Nat) (h : kn = 4 ∨ before ≤ d) (h2 : d < before ∨ kn = 1) : dayN es before d = nTo es d kn := by
  unfold dayN
  by_cases hb : d < before
  · obtain rfl : kn = 4 := by omega
    rw [if_pos hb]; simp [nTo]
  · obtain rfl : kn = 1 := by omega
    rw [if_neg hb]; rfl

set_option maxRecDepth 100000 in
set_option maxHeartbeats 6400000 in
theorem statsforget_lit (v : Value) (es : List Ev) (before : Int) (w : World) (hv : SliceEv w v es) (hT : Tab w) :
    Calls Tryz.prog 4 #[v, .int .i64 before] w fun e w' => e = .returned (.bool true) ∧ Below w.heap.size w w' := by
  have hau := Lib.hid hv.au16
  have hv' := Lib.hid hv
  have hT' := Lib.hid hT
  clear hv hT
  go_enter Tryz.func4, Tryz.ntmps4
  go_wp2_with (go_at_call 8; fail)
  refine (known_any _).mono ?_
  rintro e w1 ⟨rfl, hb1⟩
  have hb1' := Lib.hid hb1
  clear hb1
  go_wp2_with (go_at_call 9; fail)
  refine (few_any _ es _ (hv'.out.below hb1'.out)).mono ?_
  rintro e w1' ⟨⟨fb, rfl, hfb⟩, rfl⟩
  have hfb' := Lib.hid hfb
  clear hfb
  cases fb with
  | false =>
    go_wp2_with (go_at_call 8; fail)
    refine (known_any _).mono ?_
    rintro e w2 ⟨rfl, hb2⟩
    have hb2' := Lib.hid (hb1'.out.trans (hb2.mono hb1'.out.size))
    clear hb2
    go_wp2_with fail
    go_ret
    exact ⟨rfl, hb2'.out⟩
  | true =>
    have h20 : es.length ≤ 20 := hfb'.out rfl
    go_wp2_with (go_at_call 10; fail)
    refine (build_any _ es _ (hv'.out.below hb1'.out) (by omega)).mono ?_
    rintro e w2 ⟨ov, rfl, hA⟩
    obtain ⟨p1, hp1⟩ : ∃ p, p = w1.heap.size := ⟨_, rfl⟩
    rw [← hp1]
    have hwp : Hid (w1.heap.size ≤ p1) := by show _ ≤ _; omega
    have hB2 := Lib.hid (hb1'.out.trans (hA.bel.mono hb1'.out.size))
    have hok : ∀ e ∈ okEvs es, e.err = 0 := okEvs_err
    have hokl : (okEvs es).length ≤ 20 := Nat.le_trans (okEvs_len es) h20
    have hoka : ∀ e ∈ okEvs es, e.au.length = 16 := fun e he => hau.out e (List.mem_filter.1 he).1
    have hO2 : OwnEv w1 w2 (p1 + 2) ov (okEvs es) := by rw [hp1]; exact hA.own
    have hse := hA.own.slice (by omega) hA.bel
    have hSt2 : StatsAt w2 (p1 + 1) p1 (addsL [] es) (addsZ noSizes es) := by rw [hp1]; exact hA.st
    have hbw1 := Lib.hid hA.bel
    have hbnE := (addsL_bnd es [] 0 bnd_nil).bnd (by omega)
    have hkE := keysOk_adds hau.out
    have hsz : SzN (addsZ noSizes es) 1000000000 := fun z hz => by have := addsZ_bnd es noSizes 0 sz_none (by omega) z hz; omega
    have hlE : (addsL [] es).length ≤ 100000 := by have := length_addsL (es := es) (L := []); simp at this; omega
    have hgm := gone_model es before
    have htm := text_model es hau.out before
    have htot := total_forget before (addsL [] es)
    rw [total_eq] at htot
    have hnd := nodup_adds es
    have hbF := bnd_filter hbnE (keepB before)
    have hlF : (forgetL before (addsL [] es)).length ≤ 100000 := Nat.le_trans (List.length_filter_le _ _) hlE
    have hndF : ((forgetL before (addsL [] es)).map Prod.fst).Nodup := hnd.sublist ((List.filter_sublist).map Prod.fst)
    have hkF : KeysOk (forgetL before (addsL [] es)) := fun q hq => hkE q (List.mem_filter.1 hq).1
    have hg0 := forget_gone before (addsL [] es)
    obtain ⟨L, hL⟩ : ∃ L, L = addsL [] es := ⟨_, rfl⟩
    obtain ⟨zs, hzs⟩ : ∃ zs, zs = addsZ noSizes es := ⟨_, rfl⟩
    obtain ⟨F, hF⟩ : ∃ F, F = forgetL before L := ⟨_, rfl⟩
    obtain ⟨OK, hOK⟩ : ∃ OK, OK = okEvs es := ⟨_, rfl⟩
    rw [← hOK] at hok hokl hoka hO2 hse hgm htm htot
    rw [← hL] at hSt2 hbnE hkE hlE hgm htm htot hnd hbF hlF hndF hkF hg0
    rw [← hzs] at hSt2 hsz htm
    rw [← hF] at htm htot hlF hndF hkF hg0
    have hbF2 : Bnd F := by rw [hF]; exact hbF
    have hok' := Lib.hid hok
    have hoka' := Lib.hid hoka
    have hO2' := Lib.hid hO2
    have hse' := Lib.hid hse
    have hSt2' := Lib.hid hSt2
    have hgm' := Lib.hid hgm
    have htm' := Lib.hid htm
    have htot' := Lib.hid htot
    have hnd' := Lib.hid hnd
    have hlE' := Lib.hid hlE
    have hlF' := Lib.hid hlF
    have hndF' := Lib.hid hndF
    have hkF' := Lib.hid hkF
    have hg0' := Lib.hid hg0
    have hbF' := Lib.hid hbF2
    have hsz' := Lib.hid hsz
    have hF' := Lib.hid hF
    clear hok hoka hO2 hse hSt2 hgm htm htot hnd hlE hlF hndF hkF hg0 hbF hbF2 hsz hF hL hzs hOK hbnE hkE hA hp1
    go_wp2_with (go_at_call 15; fail)
    refine (mdays_any ov OK _ hse'.out hok'.out (by omega)).mono ?_
    rintro e w3 ⟨dv, rfl, hdv, hb3⟩
    obtain ⟨ds, hds⟩ : ∃ ds, ds = daysM OK := ⟨_, rfl⟩
    have hdl : ds.length ≤ 20 := by rw [hds]; exact Nat.le_trans (daysM_len _ OK rfl) hokl
    rw [← hds] at hdv
    rw [← hds] at hgm'
    obtain ⟨da, dc, rfl, _, _⟩ := hdv.form
    have hdv' := Lib.hid hdv
    have hb3' := Lib.hid hb3
    clear hdv hds hb3
    go_wp2_with fail
    go_loopw [8, 10] (fun nv i wr => ∃ k : Nat, k ≤ ds.length ∧ i = .int .i64 k ∧ nv = .int .i64 (((ds.take k).map (dayN OK before)).sum : Nat) ∧ ((ds.take k).map (dayN OK before)).sum ≤ 3000 * k ∧ Below w3.heap.size w3 wr) (fun _ i _ => ds.length - (intOf i).toNat)
    case atStart => exact ⟨0, by omega, rfl, rfl, by simp, Below.refl _ _⟩
    case round =>
      obtain ⟨k, hk0, rfl, rfl, hnl, hB⟩ := hrel
      obtain ⟨n, hn⟩ : ∃ n, n = ((ds.take k).map (dayN OK before)).sum := ⟨_, rfl⟩
      rw [← hn] at hnl ⊢
      have hB' := Lib.hid hB
      have hn' := Lib.hid hn
      clear hB hn
      by_cases hk : k < ds.length
      · obtain ⟨d, hd⟩ : ∃ d, d = ds.getD k 0 := ⟨_, rfl⟩
        have hnext : Hid (((ds.take (k + 1)).map (dayN OK before)).sum = n + dayN OK before d) := by show _ = _; rw [take_getD (d := 0) hk, List.map_append, List.sum_append, hn'.out, hd]; simp
        obtain ⟨da', dc', hform, _, hcells⟩ := hdv'.out.form
        cases hform
        obtain ⟨bd, od, rfl, hc0⟩ := hcells k hk
        rw [← hd] at hc0
        have hbd0 : bd < w3.heap.size := World.block_lt_of_cell? _ _ hc0
        have hc0' := Lib.hid hc0
        clear hd hcells hc0
        go_wp2_with fail
        go_loopw [8, 11] (fun nv i wq => ∃ kn : Nat, (1 ≤ kn ∧ kn ≤ 4) ∧ i = .int .i64 kn ∧ nv = .int .i64 (n + nTo OK d kn : Nat) ∧ n + nTo OK d kn ≤ 3000 * k + 1000 * (kn - 1) ∧ Below w3.heap.size w3 wq ∧ (d < before ∨ kn = 1)) (fun _ i _ => 4 - (intOf i).toNat)
        case atStart => exact ⟨1, by omega, rfl, by simp [nTo], by simp [nTo]; omega, hB'.out, Or.inr rfl⟩
        case round =>
          obtain ⟨kn, ⟨hkn1, hkn4⟩, rfl, rfl, hnl2, hB, hbk⟩ := hrel
          have hB3' := Lib.hid hB
          clear hB
          obtain ⟨n2, hn2⟩ : ∃ x, x = n + nTo OK d kn := ⟨_, rfl⟩
          rw [← hn2] at hnl2 ⊢
          have hn2' := Lib.hid hn2
          clear hn2
          have hdc : wr.cell? ⟨bd, od + k, none⟩ = some (.int .i64 d) := (hB3'.out.cell (p := ⟨bd, od + k, none⟩) hbd0).trans hc0'.out
          by_cases hk4 : kn = 4
          · subst hk4
            have hend : Hid (dayN OK before d = nTo OK d 4) := dayN_eq OK before d 4 (Or.inl rfl) hbk
            clear hdc
            go_wp2_with fail
            refine ⟨⟨k + 1, by omega, by go_num, by rw [hnext.out, hend.out, hn2'.out], by rw [hnext.out, hend.out, ← hn2'.out]; omega, hB3'.out⟩, by simp [intOf]; omega⟩
          · by_cases hbd2 : d < before
            · have hk3 : kn ≤ 3 := by omega
              have hal : (allM OK kn d d).length ≤ 1000 := by have := allM_len kn d d _ OK rfl hok'.out; omega
              have hstep : Hid (n + nTo OK d (kn + 1) = n2 + (allM OK kn d d).length) := by show _ = _; rw [nTo_succ OK d hkn1, hn2'.out]; omega
              have hvr := Lib.hid ((hse'.out.below hb3'.out).below hB3'.out)
              have m1 := fun W (h : Below wr.heap.size wr W) => all_any ov OK kn d d W (hvr.out.below h) hok'.out (by omega) (by omega) (by omega)
              obtain ⟨ns, hns⟩ : ∃ ns, ns = allM OK kn d d := ⟨_, rfl⟩
              rw [← hns] at hal hstep m1
              have m1' := Lib.hid m1
              clear m1 hns
              have hwr : IntKind.i64.wrap ((n2 : Int) + (ns.length : Int)) = (n2 : Int) + (ns.length : Int) := by rw [IntKind.wrap_i64]; omega
              have hbW : Below wr.heap.size wr wr := Below.refl _ _
              have g1 : bd < wr.heap.size := World.block_lt_of_cell? _ _ hdc
              go_wp2_with fail
              go_region_held3 (fun W' => Below wr.heap.size wr W' ∧ W'.cell? ⟨bd, od + k, none⟩ = some (.int .i64 d)) (refine ⟨?_, ?_⟩ <;> first | assumption | exact (by assumption : Below _ _ _).drew)
                (first
                  | (go_at_call 18; refine (m1'.out _ (by first | assumption | exact And.left (by assumption))).mono ?_; rintro e W1 ⟨u, rfl, hOu, hb1⟩; have hq1 : Below wr.heap.size wr W1 := Below.trans (by first | assumption | exact And.left (by assumption)) (hb1.mono (Below.size (w := wr) (B := wr.heap.size) (by first | assumption | exact And.left (by assumption)))); obtain ⟨na, nc, rfl, _⟩ := hOu.form; have hd0 := (hq1.cell (p := ⟨bd, od + k, none⟩) g1).trans hdc; clear hb1 hOu))
              have hB5 := Lib.hid (hB3'.out.trans (hq1.mono hB3'.out.size))
              clear hq1 hd0 hbW hdc
              go_wp2_with fail
              exact ⟨⟨kn + 1, by omega, by go_num, by rw [hstep.out]; go_num, by rw [hstep.out]; omega, hB5.out, Or.inl hbd2⟩, by simp [intOf]; omega⟩
            · obtain rfl : kn = 1 := by omega
              have hle : before ≤ d := by omega
              have hend : Hid (dayN OK before d = nTo OK d 1) := dayN_eq OK before d 1 (Or.inr hle) (Or.inr rfl)
              have hdlt : decide (d < before) = false := decide_eq_false hbd2
              clear hbd2
              go_wp2_with fail
              refine ⟨⟨k + 1, by omega, by go_num, by rw [hnext.out, hend.out, hn2'.out], by rw [hnext.out, hend.out, ← hn2'.out]; omega, hB3'.out⟩, by simp [intOf]; omega⟩
      · obtain rfl : k = ds.length := by omega
        rw [List.take_length] at hn'
        have hB4 := Lib.hid (hB2.out.trans ((hb3'.out.trans (hB'.out.mono hb3'.out.size)).mono hB2.out.size))
        have hbe := Lib.hid (hb3'.out.trans (hB'.out.mono hb3'.out.size))
        have hSt4 := Lib.hid (hSt2'.out.below hbe.out)
        have hO4 : Hid (OwnEv w1 wr (p1 + 2) ov OK) := hO2'.out.block fun g _ hg => hbe.out.block g hg
        have hbw4 := Lib.hid (hbw1.out.trans (hbe.out.mono hbw1.out.size))
        go_wp2_with (go_at_call 19; fail)
        refine (forget_any (p1 + 1) p1 L zs before _ hSt4.out hnd'.out hlE'.out).mono ?_
        rintro e w5 ⟨rfl, hst, hkp⟩
        rw [hgm'.out, ← hn'.out]
        rw [← hF'.out] at hst
        have hSt5 := Lib.hid hst
        have hkp5 := Lib.hid hkp
        have hO5 : Hid (OwnEv w1 w5 (p1 + 2) ov OK) := hO4.out.block fun g hg1 hg2 => hkp.block g hg2 (by omega) (by omega)
        have hC5 := Lib.hid (hbw4.out.trans (hkp.toBelow hbw4.out.size (by have := hwp.out; omega) hwp.out))
        clear hst hkp
        go_wp2_with (go_at_call 20; fail)
        refine (text_any (p1 + 1) p1 F zs _ hSt5.out (hT'.out.below (hb1'.out.trans (hC5.out.mono hb1'.out.size))) hlF'.out hbF'.out hkF'.out hsz'.out).mono ?_
        rintro e w6 ⟨rfl, hb6⟩
        rw [htm'.out]
        have hC6 := Lib.hid (hC5.out.trans (hb6.mono hC5.out.size))
        have hSt6 := Lib.hid (hSt5.out.below hb6)
        have hO6 : Hid (OwnEv w1 w6 (p1 + 2) ov OK) := hO5.out.block fun g _ hg => hb6.block g hg
        clear hb6
        have hse6 := Lib.hid (hO6.out.slice (by omega) hC6.out)
        obtain ⟨X, hX⟩ : ∃ X, X = textM OK before := ⟨_, rfl⟩
        rw [← hX]
        have hX' := Lib.hid hX
        clear hX
        go_wp2_with (go_at_call 21; fail)
        refine (mtext_any ov OK before _ hse6.out hok'.out hoka'.out (by omega)).mono ?_
        rintro e w7 ⟨rfl, hb7⟩
        rw [← hX'.out]
        have hC7 := Lib.hid (hC6.out.trans (hb7.mono hC6.out.size))
        have hSt7 := Lib.hid (hSt6.out.below hb7)
        have hse7 := Lib.hid (hse6.out.below hb7)
        clear hb7
        obtain ⟨x, hx⟩ : ∃ x, x = (ofM OK 0 ByteArray.empty 0 80000).1 := ⟨_, rfl⟩
        obtain ⟨y, hy⟩ : ∃ y, y = (ofM OK 0 ByteArray.empty 0 80000).2 := ⟨_, rfl⟩
        have hxy : Hid (sumBy isWhole F = (x, y)) := by show _ = _; rw [htot'.out, hx, hy]
        have hec := Tryz.equal_cnt x y
        have mof := fun W (h : SliceEv W ov OK) => mof_any ov OK 0 ⟨#[]⟩ 0 80000 W h hok'.out (by omega)
        rw [show (⟨#[]⟩ : ByteArray) = ByteArray.empty from rfl, ← hx, ← hy] at mof
        have mof' := Lib.hid mof
        clear mof hx hy
        go_wp2_with (go_at_call 11; fail)
        refine (total_any (p1 + 1) p1 F zs _ hSt7.out hbF'.out).mono ?_
        rintro e w8 ⟨rfl, hb8⟩
        rw [hxy.out]
        have hC8 := Lib.hid (hC7.out.trans (hb8.mono hC7.out.size))
        have hSt8 := Lib.hid (hSt7.out.below hb8)
        have hse8 := Lib.hid (hse7.out.below hb8)
        clear hb8
        go_wp2_with (go_at_call 12; fail)
        refine (mof'.out _ hse8.out).mono ?_
        rintro e w9 ⟨rfl, hb9⟩
        have hC9 := Lib.hid (hC8.out.trans (hb9.mono hC8.out.size))
        have hSt9 := Lib.hid (hSt8.out.below hb9)
        clear hb9
        go_wp2_with (go_at_call 19; fail)
        refine (forget_any (p1 + 1) p1 F zs before _ hSt9.out hndF'.out hlF'.out).mono ?_
        rintro e w10 ⟨rfl, _, hkp⟩
        rw [hg0'.out]
        have hC10 := Lib.hid (hC9.out.trans (hkp.toBelow hC9.out.size (by have := hwp.out; omega) hwp.out))
        clear hkp hec
        go_wp2_with fail
        go_ret
        exact ⟨ret_bool (by simp), hb1'.out.trans (hC10.out.mono hb1'.out.size)⟩
end Go.Proofs.YtlemadbmlnjhpaaGreatDoor
