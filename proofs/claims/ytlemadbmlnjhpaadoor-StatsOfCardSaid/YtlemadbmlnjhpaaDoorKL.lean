/- StatsOf: the walk of the statement. -/
import Derived.Test.YtlemadbmlnjhpaaDoorKJ
import Derived.Test.YtlemadbmlnjhpaaDoorKK
namespace Go.Proofs.YtlemadbmlnjhpaaDoor
open Go Go.RowKit Go.Proofs
open Go.Sort (grow)
set_option linter.unusedSimpArgs false
set_option linter.unusedVariables false

theorem okEvs_err {es : List Ev} : ∀ e ∈ okEvs es, e.err = 0 := fun e he => by
  have := (List.mem_filter.1 he).2
  simpa using this
theorem okEvs_len (es : List Ev) : (okEvs es).length ≤ es.length := List.length_filter_le _ _

theorem want0a {es : List Ev} {kind : Int} {name : ByteArray} {a b : Int} (h : name.toList = []) : wantM es kind name a b = (0, 0) := if_pos (Or.inl h)
theorem want0b {es : List Ev} {kind : Int} {name : ByteArray} {a b : Int} (h : kind < 1) : wantM es kind name a b = (0, 0) := if_pos (Or.inr (Or.inl h))
theorem want0c {es : List Ev} {kind : Int} {name : ByteArray} {a b : Int} (h : (name.toList.isEmpty = true ∨ kind < 1) ∨ 3 < kind) : wantM es kind name a b = (0, 0) := by
  refine if_pos ?_
  rcases h with (h | h) | h
  · exact Or.inl (List.isEmpty_iff.1 h)
  · exact Or.inr (Or.inl h)
  · exact Or.inr (Or.inr h)
theorem wantxy {es : List Ev} {kind : Int} {name : ByteArray} {a b : Int} (h : (name.toList.isEmpty = false ∧ 1 ≤ kind) ∧ kind ≤ 3) : wantM es kind name a b = ofM (okEvs es) kind name a b := by
  refine if_neg ?_
  obtain ⟨⟨h1, h2⟩, h3⟩ := h
  rintro (h | h | h)
  · rw [h] at h1; cases h1
  · omega
  · omega
theorem Tryd.equal_cnt (x y : Int) (w : World) : (Op.equal 29 (.agg #[.int .i64 x, .int .i64 y]) (.agg #[.int .i64 x, .int .i64 y])).run Tryd.prog w = .ok true w := by
  simp [Op.equal, Op.maxDepth, go_sem]
set_option maxRecDepth 100000 in
set_option maxHeartbeats 3200000 in
theorem statsof_any (v : Value) (es : List Ev) (kind : Int) (name : ByteArray) (p q : Int) (w : World) (hv : SliceEv w v es) (hau : ∀ e ∈ es, e.au.length = 16) :
    Calls Tryd.prog 3 #[v, .int .i64 kind, .string name, .int .i64 p, .int .i64 q] w fun e w' => e = .returned (.bool true) ∧ Below w.heap.size w w' := by
  have hv' := Lib.hid hv
  have hau' := Lib.hid hau
  clear hv hau
  go_enter Tryd.func3, Tryd.ntmps3
  go_wp2_with (go_at_call 4; fail)
  refine (known_any _).mono ?_
  rintro e w1 ⟨rfl, hb1⟩
  have hb1' := Lib.hid hb1
  clear hb1
  go_wp2_with (go_at_call 5; fail)
  refine (few_any v es _ (hv'.out.below hb1'.out)).mono ?_
  rintro e w1' ⟨⟨fb, rfl, hfb⟩, rfl⟩
  have hfb' := Lib.hid hfb
  clear hfb
  cases fb with
  | false =>
    go_wp2_with (go_at_call 4; fail)
    refine (known_any _).mono ?_
    rintro e w2 ⟨rfl, hb2⟩
    have hb2' := Lib.hid (hb1'.out.trans (hb2.mono hb1'.out.size))
    clear hb2
    go_wp2_with fail
    go_ret
    exact ⟨rfl, hb2'.out⟩
  | true =>
    by_cases h200 : 200 < name.size
    · go_wp2_with (go_at_call 4; fail)
      refine (known_any _).mono ?_
      rintro e w2 ⟨rfl, hb2⟩
      have hb2' := Lib.hid (hb1'.out.trans (hb2.mono hb1'.out.size))
      clear hb2
      go_wp2_with fail
      go_ret
      exact ⟨rfl, hb2'.out⟩
    · have h200' : name.size ≤ 200 := by omega
      clear h200
      have h20 : es.length ≤ 20 := hfb'.out rfl
      go_wp2_with (go_at_call 6; fail)
      refine (build_any v es _ (hv'.out.below hb1'.out) (by omega)).mono ?_
      rintro e w2 ⟨ov, rfl, hB⟩
      have hok := hB.own.slice (by have := okEvs_len es; omega) hB.bel
      have hB' := Lib.hid hB
      have hok' := Lib.hid hok
      clear hB hok
      go_wp2_with (go_at_call 7; fail)
      refine (mof_any ov (okEvs es) kind name p q _ hok'.out okEvs_err (by have := okEvs_len es; omega)).mono ?_
      rintro e w3 ⟨rfl, hb3⟩
      obtain ⟨x, hx⟩ : ∃ x, x = (ofM (okEvs es) kind name p q).1 := ⟨_, rfl⟩
      obtain ⟨y, hy⟩ : ∃ x, x = (ofM (okEvs es) kind name p q).2 := ⟨_, rfl⟩
      rw [← hx, ← hy]
      have hxy : Hid (ofM (okEvs es) kind name p q = (x, y)) := by show _ = _; rw [hx, hy]
      clear hx hy
      have hB3' := Lib.hid (hB'.out.below hb3)
      have hbb := Lib.hid (hb1'.out.trans (hB3'.out.bel.mono hb1'.out.size))
      have hplain : Hid (zeroCnt kind (sumBy (ofPred kind name p q) (addsL [] es)) = wantM es kind name p q) := plain_of es hau'.out kind name p q
      clear hb3
      go_wp2_with fail
      · have hwant : wantM es kind name p q = (0, 0) := want0a (by assumption)
        obtain ⟨W7, hW7⟩ : ∃ W7, W7 = w3.alloc (.cells #[.int .i64 0, .int .i64 0] 29) := ⟨_, rfl⟩
        have hb7 : Below w3.heap.size w3 W7 := by rw [hW7]; exact (Below.refl _ _).alloc (Nat.le_refl _) _
        have hst : ∀ d os, StatsAt (grow (redrawn W7 d) os) (w1.heap.size + 1) w1.heap.size (addsL [] es) (addsZ noSizes es) := fun d os => (hB3'.out.st.below hb7).below (below_regrown W7 d os)
        have hbnd : Bnd (addsL [] es) := (addsL_bnd es [] 0 bnd_nil).bnd (by omega)
        have cO : ∀ d os, Calls Tryd.prog 8 #[.pointer (some ⟨w1.heap.size + 1, 0, none⟩), .int .i64 kind, .string name, .int .i64 p, .int .i64 q] (grow (redrawn W7 d) os) fun e w'' => e = .returned (.agg #[.int .i64 0, .int .i64 0]) ∧ ∃ p : Regrown, w'' = grow (redrawn W7 p.d) p.os := fun d os => Calls.regrown_of (by
          have h := of_any _ _ _ _ kind name p q _ (hst d os) hbnd
          rw [hplain.out, hwant] at h; exact h)
        have g0 : ∀ d os, (grow (redrawn W7 d) os).cell? ⟨w3.heap.size, 0, none⟩ = some (.int .i64 0) := fun d os => cell_regrown (by rw [hW7, cell_of_row _ _ _ _ _ _ (heap_alloc_new w3 _)]; rfl) d os
        have g1 : ∀ d os, (grow (redrawn W7 d) os).cell? ⟨w3.heap.size, 1, none⟩ = some (.int .i64 0) := fun d os => cell_regrown (by rw [hW7, cell_of_row _ _ _ _ _ _ (heap_alloc_new w3 _)]; rfl) d os
        have he : ∀ W, (Op.equal 29 (.agg #[.int .i64 0, .int .i64 0]) (.agg #[.int .i64 0, .int .i64 0])).run Tryd.prog W = .ok true W := fun W => Tryd.equal_cnt _ _ W
        have hb7w : Below w.heap.size w W7 := hbb.out.trans (hb7.mono hbb.out.size)
        have cO' := Lib.hid cO
        have hb7w' := Lib.hid hb7w
        have hW7' := Lib.hid hW7
        clear cO hst hbnd hb7 hb7w hW7 hwant
        rw [← hW7'.out]
        refine wp_region_quiet_below (by kernel_rfl) (by kernel_rfl) ?_
        repeat (quiet_step (with_reducible exact cO'.out _ _))
        refine wpQuiet_nil ?_
        intro _ hw'
        obtain ⟨⟨dq, osq⟩, hw''⟩ := hw'
        subst hw''
        go_wp2_with fail
        go_ret
        exact ⟨ret_bool (by simp), hb7w'.out.trans ((below_regrown W7 dq osq).mono hb7w'.out.size)⟩
      · have hwant : wantM es kind name p q = (0, 0) := want0c (by assumption)
        obtain ⟨W7, hW7⟩ : ∃ W7, W7 = w3.alloc (.cells #[.int .i64 0, .int .i64 0] 29) := ⟨_, rfl⟩
        have hb7 : Below w3.heap.size w3 W7 := by rw [hW7]; exact (Below.refl _ _).alloc (Nat.le_refl _) _
        have hst : ∀ d os, StatsAt (grow (redrawn W7 d) os) (w1.heap.size + 1) w1.heap.size (addsL [] es) (addsZ noSizes es) := fun d os => (hB3'.out.st.below hb7).below (below_regrown W7 d os)
        have hbnd : Bnd (addsL [] es) := (addsL_bnd es [] 0 bnd_nil).bnd (by omega)
        have cO : ∀ d os, Calls Tryd.prog 8 #[.pointer (some ⟨w1.heap.size + 1, 0, none⟩), .int .i64 kind, .string name, .int .i64 p, .int .i64 q] (grow (redrawn W7 d) os) fun e w'' => e = .returned (.agg #[.int .i64 0, .int .i64 0]) ∧ ∃ p : Regrown, w'' = grow (redrawn W7 p.d) p.os := fun d os => Calls.regrown_of (by
          have h := of_any _ _ _ _ kind name p q _ (hst d os) hbnd
          rw [hplain.out, hwant] at h; exact h)
        have g0 : ∀ d os, (grow (redrawn W7 d) os).cell? ⟨w3.heap.size, 0, none⟩ = some (.int .i64 0) := fun d os => cell_regrown (by rw [hW7, cell_of_row _ _ _ _ _ _ (heap_alloc_new w3 _)]; rfl) d os
        have g1 : ∀ d os, (grow (redrawn W7 d) os).cell? ⟨w3.heap.size, 1, none⟩ = some (.int .i64 0) := fun d os => cell_regrown (by rw [hW7, cell_of_row _ _ _ _ _ _ (heap_alloc_new w3 _)]; rfl) d os
        have he : ∀ W, (Op.equal 29 (.agg #[.int .i64 0, .int .i64 0]) (.agg #[.int .i64 0, .int .i64 0])).run Tryd.prog W = .ok true W := fun W => Tryd.equal_cnt _ _ W
        have hb7w : Below w.heap.size w W7 := hbb.out.trans (hb7.mono hbb.out.size)
        have cO' := Lib.hid cO
        have hb7w' := Lib.hid hb7w
        have hW7' := Lib.hid hW7
        clear cO hst hbnd hb7 hb7w hW7 hwant
        rw [← hW7'.out]
        refine wp_region_quiet_below (by kernel_rfl) (by kernel_rfl) ?_
        repeat (quiet_step (with_reducible exact cO'.out _ _))
        refine wpQuiet_nil ?_
        intro _ hw'
        obtain ⟨⟨dq, osq⟩, hw''⟩ := hw'
        subst hw''
        go_wp2_with fail
        go_ret
        exact ⟨ret_bool (by simp), hb7w'.out.trans ((below_regrown W7 dq osq).mono hb7w'.out.size)⟩
      · have hwant : wantM es kind name p q = (x, y) := (wantxy (by assumption)).trans hxy.out
        obtain ⟨W7, hW7⟩ : ∃ W7, W7 = w3.alloc (.cells #[.int .i64 x, .int .i64 y] 29) := ⟨_, rfl⟩
        have hb7 : Below w3.heap.size w3 W7 := by rw [hW7]; exact (Below.refl _ _).alloc (Nat.le_refl _) _
        have hst : ∀ d os, StatsAt (grow (redrawn W7 d) os) (w1.heap.size + 1) w1.heap.size (addsL [] es) (addsZ noSizes es) := fun d os => (hB3'.out.st.below hb7).below (below_regrown W7 d os)
        have hbnd : Bnd (addsL [] es) := (addsL_bnd es [] 0 bnd_nil).bnd (by omega)
        have cO : ∀ d os, Calls Tryd.prog 8 #[.pointer (some ⟨w1.heap.size + 1, 0, none⟩), .int .i64 kind, .string name, .int .i64 p, .int .i64 q] (grow (redrawn W7 d) os) fun e w'' => e = .returned (.agg #[.int .i64 x, .int .i64 y]) ∧ ∃ p : Regrown, w'' = grow (redrawn W7 p.d) p.os := fun d os => Calls.regrown_of (by
          have h := of_any _ _ _ _ kind name p q _ (hst d os) hbnd
          rw [hplain.out, hwant] at h; exact h)
        have g0 : ∀ d os, (grow (redrawn W7 d) os).cell? ⟨w3.heap.size, 0, none⟩ = some (.int .i64 x) := fun d os => cell_regrown (by rw [hW7, cell_of_row _ _ _ _ _ _ (heap_alloc_new w3 _)]; rfl) d os
        have g1 : ∀ d os, (grow (redrawn W7 d) os).cell? ⟨w3.heap.size, 1, none⟩ = some (.int .i64 y) := fun d os => cell_regrown (by rw [hW7, cell_of_row _ _ _ _ _ _ (heap_alloc_new w3 _)]; rfl) d os
        have he : ∀ W, (Op.equal 29 (.agg #[.int .i64 x, .int .i64 y]) (.agg #[.int .i64 x, .int .i64 y])).run Tryd.prog W = .ok true W := fun W => Tryd.equal_cnt _ _ W
        have hb7w : Below w.heap.size w W7 := hbb.out.trans (hb7.mono hbb.out.size)
        have cO' := Lib.hid cO
        have hb7w' := Lib.hid hb7w
        have hW7' := Lib.hid hW7
        clear cO hst hbnd hb7 hb7w hW7 hwant
        rw [← hW7'.out]
        refine wp_region_quiet_below (by kernel_rfl) (by kernel_rfl) ?_
        repeat (quiet_step (with_reducible exact cO'.out _ _))
        refine wpQuiet_nil ?_
        intro _ hw'
        obtain ⟨⟨dq, osq⟩, hw''⟩ := hw'
        subst hw''
        go_wp2_with fail
        go_ret
        exact ⟨ret_bool (by simp), hb7w'.out.trans ((below_regrown W7 dq osq).mono hb7w'.out.size)⟩
      · have hwant : wantM es kind name p q = (0, 0) := want0b (by assumption)
        obtain ⟨W7, hW7⟩ : ∃ W7, W7 = w3.alloc (.cells #[.int .i64 0, .int .i64 0] 29) := ⟨_, rfl⟩
        have hb7 : Below w3.heap.size w3 W7 := by rw [hW7]; exact (Below.refl _ _).alloc (Nat.le_refl _) _
        have hst : ∀ d os, StatsAt (grow (redrawn W7 d) os) (w1.heap.size + 1) w1.heap.size (addsL [] es) (addsZ noSizes es) := fun d os => (hB3'.out.st.below hb7).below (below_regrown W7 d os)
        have hbnd : Bnd (addsL [] es) := (addsL_bnd es [] 0 bnd_nil).bnd (by omega)
        have cO : ∀ d os, Calls Tryd.prog 8 #[.pointer (some ⟨w1.heap.size + 1, 0, none⟩), .int .i64 kind, .string name, .int .i64 p, .int .i64 q] (grow (redrawn W7 d) os) fun e w'' => e = .returned (.agg #[.int .i64 0, .int .i64 0]) ∧ ∃ p : Regrown, w'' = grow (redrawn W7 p.d) p.os := fun d os => Calls.regrown_of (by
          have h := of_any _ _ _ _ kind name p q _ (hst d os) hbnd
          rw [hplain.out, hwant] at h; exact h)
        have g0 : ∀ d os, (grow (redrawn W7 d) os).cell? ⟨w3.heap.size, 0, none⟩ = some (.int .i64 0) := fun d os => cell_regrown (by rw [hW7, cell_of_row _ _ _ _ _ _ (heap_alloc_new w3 _)]; rfl) d os
        have g1 : ∀ d os, (grow (redrawn W7 d) os).cell? ⟨w3.heap.size, 1, none⟩ = some (.int .i64 0) := fun d os => cell_regrown (by rw [hW7, cell_of_row _ _ _ _ _ _ (heap_alloc_new w3 _)]; rfl) d os
        have he : ∀ W, (Op.equal 29 (.agg #[.int .i64 0, .int .i64 0]) (.agg #[.int .i64 0, .int .i64 0])).run Tryd.prog W = .ok true W := fun W => Tryd.equal_cnt _ _ W
        have hb7w : Below w.heap.size w W7 := hbb.out.trans (hb7.mono hbb.out.size)
        have cO' := Lib.hid cO
        have hb7w' := Lib.hid hb7w
        have hW7' := Lib.hid hW7
        clear cO hst hbnd hb7 hb7w hW7 hwant
        rw [← hW7'.out]
        refine wp_region_quiet_below (by kernel_rfl) (by kernel_rfl) ?_
        repeat (quiet_step (with_reducible exact cO'.out _ _))
        refine wpQuiet_nil ?_
        intro _ hw'
        obtain ⟨⟨dq, osq⟩, hw''⟩ := hw'
        subst hw''
        go_wp2_with fail
        go_ret
        exact ⟨ret_bool (by simp), hb7w'.out.trans ((below_regrown W7 dq osq).mono hb7w'.out.size)⟩
end Go.Proofs.YtlemadbmlnjhpaaDoor
