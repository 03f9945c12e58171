/- The model's of. -/
import Derived.Test.YtlemadbmlnjhpaaGreatDoorKE
namespace Go.Proofs.YtlemadbmlnjhpaaGreatDoor
open Go Go.RowKit Go.Proofs
set_option linter.unusedSimpArgs false
set_option linter.unusedVariables false

def Ev.hit (e : Ev) (kind : Int) (name : ByteArray) (a b : Int) : Bool := decide (a ≤ e.mi / 1440) && (decide (e.mi / 1440 ≤ b) && ((name.toList == []) || e.has kind name))
def ofStep (kind : Int) (name : ByteArray) (a b : Int) (c : Cnt) (e : Ev) : Cnt := if e.hit kind name a b then (c.1 + 1, c.2 + e.b) else c
def ofM (es : List Ev) (kind : Int) (name : ByteArray) (a b : Int) : Cnt := es.foldl (ofStep kind name a b) (0, 0)
theorem ofM_snoc (es : List Ev) (e : Ev) (kind : Int) (name : ByteArray) (a b : Int) : ofM (es ++ [e]) kind name a b = if e.hit kind name a b then ((ofM es kind name a b).1 + 1, (ofM es kind name a b).2 + e.b) else ofM es kind name a b := by
  simp [ofM, ofStep]
theorem Ev.ok {e : Ev} (h : e.err = 0) : (0 ≤ e.mi ∧ e.mi ≤ 105190559) ∧ 0 ≤ e.b ∧ e.b ≤ 65536 := ⟨(evErr_zero h).1, (evErr_zero h).2.2.2⟩
theorem ofM_bound (kind : Int) (name : ByteArray) (a b : Int) : ∀ (n : Nat) (es : List Ev), es.length = n → (∀ e ∈ es, e.err = 0) → 0 ≤ (ofM es kind name a b).1 ∧ (ofM es kind name a b).1 ≤ n ∧ 0 ≤ (ofM es kind name a b).2 ∧ (ofM es kind name a b).2 ≤ n * 65536
  | 0, es, hl, _ => by obtain rfl : es = [] := List.eq_nil_of_length_eq_zero hl; simp [ofM]
  | n + 1, es, hl, h => by
    obtain ⟨xs, e, rfl⟩ : ∃ xs e, es = xs ++ [e] := ⟨es.dropLast, es.getLast (by intro h0; subst h0; simp at hl), (List.dropLast_concat_getLast _).symm⟩
    have ih := ofM_bound kind name a b n xs (by simpa using hl) (fun x hx => h x (by simp [hx]))
    have he := Ev.ok (h e (by simp))
    rw [ofM_snoc]
    split <;> (try simp only []) <;> omega
theorem take_some {α : Type} {l : List α} {k : Nat} {e : α} (h : l[k]? = some e) : l.take (k + 1) = l.take k ++ [e] := by
  obtain ⟨hk, rfl⟩ := List.getElem?_eq_some_iff.1 h
  exact List.take_succ_eq_append_getElem hk

theorem wpList_load_guard {P : Program} {ops : Array Oper} {rest : List Oper} {op : Oper} {a : Act} {w : World} {Q : Exit → Act → World → Prop} (hgd : Region.wanted op (yielded ops a.tmps) = true) (ty : TypeId) (x : Operand) (ho : op.op = .load ty x)
    (b o : Nat) (hx : a.eval x = .pointer (some ⟨b, o, none⟩)) (cs : List Value) (d : TypeDesc) (hc : w.rangeAt b o cs)
    (hu : P.underlying ty = some d) (hd : d.isRow = true) (hi : (P.info? ty).map (·.size) = some cs.length)
    (h : wpList P ops Q rest (a.put op.dst (.agg cs.toArray)) w) : wpList P ops Q (op :: rest) a w :=
  wpList_step fun _ hK => by rw [if_pos hgd]; exact wp_load_mid ty x ho b o hx cs d hc hu hd hi (hK _ _ h)
/-- the state of the model's loop -/
structure OfAt (w wr : World) (x y : Int) : Prop where
  res : wr.heap[w.heap.size]? = some (.cells #[.int .i64 0, .int .i64 0] 34 (0, 0))
  out : wr.heap[w.heap.size + 1]? = some (.cells #[.int .i64 x, .int .i64 y] 34 (0, 0))
  bel : Below w.heap.size w wr
theorem OfAt.lt {w wr : World} {x y : Int} (h : OfAt w wr x y) : w.heap.size + 1 < wr.heap.size := (Array.getElem?_eq_some_iff.1 h.out).1
theorem OfAt.below {w wr w' : World} {x y : Int} (h : OfAt w wr x y) (hb : Below wr.heap.size wr w') : OfAt w w' x y :=
  ⟨(hb.block _ (by have := h.lt; omega)).trans h.res, (hb.block _ h.lt).trans h.out, h.bel.trans (hb.mono h.bel.size)⟩

set_option maxRecDepth 100000 in
set_option maxHeartbeats 3200000 in
theorem mof_any (v : Value) (es : List Ev) (kind : Int) (name : ByteArray) (p q : Int) (w : World) (hv : SliceEv w v es) (hok : ∀ e ∈ es, e.err = 0) (hl : es.length ≤ 1000) :
    Calls Tryz.prog 12 #[v, .int .i64 kind, .string name, .int .i64 p, .int .i64 q] w fun e w' => e = .returned (.agg #[.int .i64 (ofM es kind name p q).1, .int .i64 (ofM es kind name p q).2]) ∧ Below w.heap.size w w' := by
  obtain ⟨va, vc, rfl, _, hvf⟩ := hv.form
  clear hvf
  have hv' := Lib.hid hv
  have hok' := Lib.hid hok
  clear hv hok
  obtain ⟨W, hW⟩ : ∃ W, W = (w.alloc (.cells #[.int .i64 0, .int .i64 0] 34)).alloc (.cells #[.int .i64 0, .int .i64 0] 34) := ⟨_, rfl⟩
  have h0 : OfAt w W 0 0 := by rw [hW]; exact ⟨heap_alloc2_old _ _ _, heap_alloc2_new _ _ _, ((Below.refl _ _).alloc (Nat.le_refl _) _).alloc (by simp) _⟩
  go_enter Tryz.func12, Tryz.ntmps12
  go_wp2_with fail
  rw [← hW]
  have h0' := Lib.hid h0
  clear h0 hW
  go_loopw [12] (fun i wr => ∃ k : Nat, k ≤ es.length ∧ i = .int .i64 k ∧ OfAt w wr (ofM (es.take k) kind name p q).1 (ofM (es.take k) kind name p q).2) (fun i _ => es.length - (intOf i).toNat)
  case atStart => exact ⟨0, by omega, rfl, h0'.out⟩
  case round =>
    obtain ⟨k, hk0, rfl, hA⟩ := hrel
    have hbd := ofM_bound kind name p q k (es.take k) (by simp; omega) (fun e he => hok'.out e (List.mem_of_mem_take he))
    obtain ⟨x, hx⟩ : ∃ x, x = (ofM (es.take k) kind name p q).1 := ⟨_, rfl⟩
    obtain ⟨y, hy⟩ : ∃ x, x = (ofM (es.take k) kind name p q).2 := ⟨_, rfl⟩
    rw [← hx, ← hy] at hA hbd
    have hxy : Hid (ofM (es.take k) kind name p q = (x, y)) := by show _ = _; rw [hx, hy]
    have hA' := Lib.hid hA
    clear hx hy hA
    obtain ⟨bd1, bd2, bd3, bd4⟩ := hbd
    by_cases hk : k < es.length
    · obtain ⟨ev, hev⟩ : ∃ e, es[k]? = some e := ⟨_, List.getElem?_eq_getElem hk⟩
      obtain ⟨⟨em1, em2⟩, eb1, eb2⟩ := Ev.ok (hok'.out ev (List.mem_of_getElem? hev))
      obtain ⟨va', vc', hform, _, hvf⟩ := hv'.out.form
      cases hform
      obtain ⟨bb, o, cs, rfl, hrg0, hea⟩ := hvf k ev hev
      have hbb0 : bb < w.heap.size := World.block_lt_of_cell? w _ (hrg0 0 (.int .i64 ev.mi) (by obtain ⟨v1, v2, v3, v4, v5, v6, v7, v8, v9, v10, v11, v12, v13, v14, v15, v16, g, sv, e, _⟩ := hea; rw [e]; rfl))
      have hrg : wr.rangeAt bb (o + k * 20) cs := fun j v hj => (hA'.out.bel.cell (p := ⟨bb, _, none⟩) hbb0).trans (hrg0 j v hj)
      have hbb : bb < wr.heap.size := Nat.lt_of_lt_of_le hbb0 hA'.out.bel.size
      obtain ⟨v1, v2, v3, v4, v5, v6, v7, v8, v9, v10, v11, v12, v13, v14, v15, v16, g, sv, rfl, hau, hg, hs, _, _⟩ := hea.below hA'.out.bel
      clear hrg0
      have hnext : Hid (ofM (es.take (k + 1)) kind name p q = if ev.hit kind name p q then (x + 1, y + ev.b) else (x, y)) := by show _ = _; rw [take_some hev, ofM_snoc, hxy.out]
      have hdc := fun W => mday_lit ev.mi ev.b v1 v2 v3 v4 v5 v6 v7 v8 v9 v10 v11 v12 v13 v14 v15 v16 g sv W em1 em2
      have hhc := fun W (h : Below wr.heap.size wr W) => has_lit ev v1 v2 v3 v4 v5 v6 v7 v8 v9 v10 v11 v12 v13 v14 v15 v16 g sv hau kind name W (hg.below h) (hs.below h)
      have hhit : ev.hit kind name p q = (decide (p ≤ ev.mi / 1440) && (decide (ev.mi / 1440 ≤ q) && ((name.toList == []) || ev.has kind name))) := rfl
      obtain ⟨d, hd⟩ : ∃ d, d = ev.mi / 1440 := ⟨_, rfl⟩
      obtain ⟨mi, hmi⟩ : ∃ d, d = ev.mi := ⟨_, rfl⟩
      obtain ⟨b, hb⟩ : ∃ d, d = ev.b := ⟨_, rfl⟩
      obtain ⟨hb', hhb⟩ : ∃ d, d = ev.has kind name := ⟨_, rfl⟩
      obtain ⟨hq, hhq⟩ : ∃ d, d = ev.hit kind name p q := ⟨_, rfl⟩
      rw [← hd] at hdc hhit
      rw [← hhb] at hhit
      rw [← hhb] at hhc
      rw [← hmi, ← hb] at hhc
      rw [← hmi, ← hb] at hrg
      rw [← hmi, ← hb] at hdc
      rw [← hhq] at hhit hnext
      rw [← hb] at hnext eb1 eb2
      rw [← hmi] at em1 em2
      have hdc' := Lib.hid hdc
      have hhc' := Lib.hid hhc
      have hrg' := Lib.hid hrg
      have hhit' := Lib.hid hhit
      clear hdc hhc hrg hhit hd hmi hb hhb hhq hau hg hs hvf hev
      by_cases h1 : p ≤ d
      · by_cases h2 : d ≤ q
        · by_cases h3 : name.toList = []
          · go_wp2_with (refine wpList_load_guard rfl 27 _ rfl bb (o + k * 20) rfl _ _ hrg'.out Tryz.underlying27 rfl rfl ?_)
            go_at_call 34
            refine (hdc'.out _).mono ?_
            rintro e w1 ⟨rfl, hb1⟩
            have hb1' := Lib.hid hb1
            clear hb1
            have hrg1 : Hid (w1.rangeAt bb (o + k * 20) _) := fun j v hj => (hb1'.out.cell (p := ⟨bb, _, none⟩) hbb).trans (hrg'.out j v hj)
            go_wp2_with (refine wpList_load_guard rfl 27 _ rfl bb (o + k * 20) rfl _ _ hrg1.out Tryz.underlying27 rfl rfl ?_)
            go_at_call 34
            refine (hdc'.out _).mono ?_
            rintro e w2 ⟨rfl, hb2⟩
            have hb2' : Hid (Below wr.heap.size wr w2) := hb1'.out.trans (hb2.mono hb1'.out.size)
            clear hb2
            have hA2 : OfAt w w2 x y := hA'.out.below hb2'.out
            have k0 : w2.cell? ⟨w.heap.size + 1, 0, none⟩ = some (.int .i64 x) := by rw [cell_of_row _ _ _ _ _ _ hA2.out]; rfl
            have k1 : w2.frozen? ⟨w.heap.size + 1, 0, none⟩ = false := frozen_of_row _ _ _ _ _ hA2.out
            obtain ⟨W8, hW8⟩ : ∃ W8, W8 = w2.setCell ⟨w.heap.size + 1, 0, none⟩ (.int .i64 (x + 1)) := ⟨_, rfl⟩
            have hA3 : OfAt w W8 (x + 1) y := by
              rw [hW8]
              refine ⟨?_, ?_, hA2.bel.setCell (by simp) _⟩
              · rw [heap_setCell_other _ _ _ _ (by simp)]; exact hA2.res
              · rw [heap_setCell_same _ _ _ _ _ _ hA2.out]; rfl
            have hb8 : W8.cell? ⟨bb, o + k * 20 + 19, none⟩ = some (.int .i64 b) := by
              rw [hW8, World.cell?_of_block (heap_setCell_other _ _ _ _ (by simp; omega))]
              exact (hb2'.out.cell (p := ⟨bb, o + k * 20 + 19, none⟩) hbb).trans (hrg'.out 19 _ rfl)
            have hA2' := Lib.hid hA2
            have hA3' := Lib.hid hA3
            have hb8' := Lib.hid hb8
            have hW8' := Lib.hid hW8
            clear hA2 hA3 hb8 hW8
            go_wp2_with fail
            rw [← hW8'.out]
            have m0 : W8.cell? ⟨w.heap.size + 1, 1, none⟩ = some (.int .i64 y) := by rw [cell_of_row _ _ _ _ _ _ hA3'.out.out]; rfl
            have m1 := hb8'.out
            have m2 : W8.frozen? ⟨w.heap.size + 1, 1, none⟩ = false := frozen_of_row _ _ _ _ _ hA3'.out.out
            have hx0 : (0 : Int) ≤ (k : Int) := by omega
            have hx1 : (k : Int) < (es.length : Int) := by omega
            clear k0 k1
            refine wp_region_still_tail 9 (by kernel_rfl) (by kernel_rfl) ?_
            simp only [List.take_succ_cons, List.take_zero, List.drop_succ_cons, List.drop_zero]
            repeat still_step
            refine wpStill_nil ?_
            obtain ⟨W9, hW9⟩ : ∃ W9, W9 = W8.drew := ⟨_, rfl⟩
            have hA9 : OfAt w W9 (x + 1) y := by rw [hW9]; exact hA3'.out.below ((Below.refl _ W8).drew)
            have n0 : W9.cell? ⟨w.heap.size + 1, 1, none⟩ = some (.int .i64 y) := by rw [cell_of_row _ _ _ _ _ _ hA9.out]; rfl
            have n2 : W9.frozen? ⟨w.heap.size + 1, 1, none⟩ = false := frozen_of_row _ _ _ _ _ hA9.out
            change wpList _ _ _ _ _ W8.drew
            rw [← hW9]
            have hA9' := Lib.hid hA9
            clear hA9 m0 m1 m2 hW9
            go_wp2_with fail
            refine ⟨⟨k + 1, by omega, by go_num, ?_⟩, by simp [intOf]; omega⟩
            have hh : hq = true := by rw [hhit'.out]; simp [*]
            rw [hnext.out, if_pos hh]
            refine ⟨?_, ?_, hA9'.out.bel.setCell (by simp) _⟩
            · rw [heap_setCell_other _ _ _ _ (by simp)]; exact hA9'.out.res
            · rw [heap_setCell_same _ _ _ _ _ _ hA9'.out.out]; rfl
          · have h3' : (name.toList == []) = false := by simpa using h3
            cases hb'
            · go_wp2_with (refine wpList_load_guard rfl 27 _ rfl bb (o + k * 20) rfl _ _ hrg'.out Tryz.underlying27 rfl rfl ?_)
              go_at_call 34
              refine (hdc'.out _).mono ?_
              rintro e w1 ⟨rfl, hb1⟩
              have hb1' := Lib.hid hb1
              clear hb1
              have hrg1 : Hid (w1.rangeAt bb (o + k * 20) _) := fun j v hj => (hb1'.out.cell (p := ⟨bb, _, none⟩) hbb).trans (hrg'.out j v hj)
              go_wp2_with (refine wpList_load_guard rfl 27 _ rfl bb (o + k * 20) rfl _ _ hrg1.out Tryz.underlying27 rfl rfl ?_)
              go_at_call 34
              refine (hdc'.out _).mono ?_
              rintro e w2 ⟨rfl, hb2⟩
              have hb2' : Hid (Below wr.heap.size wr w2) := hb1'.out.trans (hb2.mono hb1'.out.size)
              clear hb2
              have hrg2 : Hid (w2.rangeAt bb (o + k * 20) _) := fun j v hj => (hb2'.out.cell (p := ⟨bb, _, none⟩) hbb).trans (hrg'.out j v hj)
              go_wp2_with (refine wpList_load_guard rfl 27 _ rfl bb (o + k * 20) rfl _ _ hrg2.out Tryz.underlying27 rfl rfl ?_)
              go_at_call 35
              refine (hhc'.out _ hb2'.out).mono ?_
              rintro e w3 ⟨rfl, hb3⟩
              have hb3' : Hid (Below wr.heap.size wr w3) := hb2'.out.trans (hb3.mono hb2'.out.size)
              clear hb3
              go_wp2_with fail
              refine ⟨⟨k + 1, by omega, by go_num, ?_⟩, by simp [intOf]; omega⟩
              rw [hnext.out, hhit'.out, h3', Bool.or_false, Bool.and_false, Bool.and_false, if_neg (by decide)]
              exact hA'.out.below hb3'.out
            · go_wp2_with (refine wpList_load_guard rfl 27 _ rfl bb (o + k * 20) rfl _ _ hrg'.out Tryz.underlying27 rfl rfl ?_)
              go_at_call 34
              refine (hdc'.out _).mono ?_
              rintro e w1 ⟨rfl, hb1⟩
              have hb1' := Lib.hid hb1
              clear hb1
              have hrg1 : Hid (w1.rangeAt bb (o + k * 20) _) := fun j v hj => (hb1'.out.cell (p := ⟨bb, _, none⟩) hbb).trans (hrg'.out j v hj)
              go_wp2_with (refine wpList_load_guard rfl 27 _ rfl bb (o + k * 20) rfl _ _ hrg1.out Tryz.underlying27 rfl rfl ?_)
              go_at_call 34
              refine (hdc'.out _).mono ?_
              rintro e w2 ⟨rfl, hb2⟩
              have hb2' : Hid (Below wr.heap.size wr w2) := hb1'.out.trans (hb2.mono hb1'.out.size)
              clear hb2
              have hrg2 : Hid (w2.rangeAt bb (o + k * 20) _) := fun j v hj => (hb2'.out.cell (p := ⟨bb, _, none⟩) hbb).trans (hrg'.out j v hj)
              go_wp2_with (refine wpList_load_guard rfl 27 _ rfl bb (o + k * 20) rfl _ _ hrg2.out Tryz.underlying27 rfl rfl ?_)
              go_at_call 35
              refine (hhc'.out _ hb2'.out).mono ?_
              rintro e w3 ⟨rfl, hb3⟩
              have hb3' : Hid (Below wr.heap.size wr w3) := hb2'.out.trans (hb3.mono hb2'.out.size)
              clear hb3
              have hA2 : OfAt w w3 x y := hA'.out.below hb3'.out
              have k0 : w3.cell? ⟨w.heap.size + 1, 0, none⟩ = some (.int .i64 x) := by rw [cell_of_row _ _ _ _ _ _ hA2.out]; rfl
              have k1 : w3.frozen? ⟨w.heap.size + 1, 0, none⟩ = false := frozen_of_row _ _ _ _ _ hA2.out
              obtain ⟨W8, hW8⟩ : ∃ W8, W8 = w3.setCell ⟨w.heap.size + 1, 0, none⟩ (.int .i64 (x + 1)) := ⟨_, rfl⟩
              have hA3 : OfAt w W8 (x + 1) y := by
                rw [hW8]
                refine ⟨?_, ?_, hA2.bel.setCell (by simp) _⟩
                · rw [heap_setCell_other _ _ _ _ (by simp)]; exact hA2.res
                · rw [heap_setCell_same _ _ _ _ _ _ hA2.out]; rfl
              have hb8 : W8.cell? ⟨bb, o + k * 20 + 19, none⟩ = some (.int .i64 b) := by
                rw [hW8, World.cell?_of_block (heap_setCell_other _ _ _ _ (by simp; omega))]
                exact (hb3'.out.cell (p := ⟨bb, o + k * 20 + 19, none⟩) hbb).trans (hrg'.out 19 _ rfl)
              have hA2' := Lib.hid hA2
              have hA3' := Lib.hid hA3
              have hb8' := Lib.hid hb8
              have hW8' := Lib.hid hW8
              clear hA2 hA3 hb8 hW8
              go_wp2_with fail
              rw [← hW8'.out]
              have m0 : W8.cell? ⟨w.heap.size + 1, 1, none⟩ = some (.int .i64 y) := by rw [cell_of_row _ _ _ _ _ _ hA3'.out.out]; rfl
              have m1 := hb8'.out
              have m2 : W8.frozen? ⟨w.heap.size + 1, 1, none⟩ = false := frozen_of_row _ _ _ _ _ hA3'.out.out
              have hx0 : (0 : Int) ≤ (k : Int) := by omega
              have hx1 : (k : Int) < (es.length : Int) := by omega
              clear k0 k1
              refine wp_region_still_tail 9 (by kernel_rfl) (by kernel_rfl) ?_
              simp only [List.take_succ_cons, List.take_zero, List.drop_succ_cons, List.drop_zero]
              repeat still_step
              refine wpStill_nil ?_
              obtain ⟨W9, hW9⟩ : ∃ W9, W9 = W8.drew := ⟨_, rfl⟩
              have hA9 : OfAt w W9 (x + 1) y := by rw [hW9]; exact hA3'.out.below ((Below.refl _ W8).drew)
              have n0 : W9.cell? ⟨w.heap.size + 1, 1, none⟩ = some (.int .i64 y) := by rw [cell_of_row _ _ _ _ _ _ hA9.out]; rfl
              have n2 : W9.frozen? ⟨w.heap.size + 1, 1, none⟩ = false := frozen_of_row _ _ _ _ _ hA9.out
              change wpList _ _ _ _ _ W8.drew
              rw [← hW9]
              have hA9' := Lib.hid hA9
              clear hA9 m0 m1 m2 hW9
              go_wp2_with fail
              refine ⟨⟨k + 1, by omega, by go_num, ?_⟩, by simp [intOf]; omega⟩
              have hh : hq = true := by rw [hhit'.out]; simp [*]
              rw [hnext.out, if_pos hh]
              refine ⟨?_, ?_, hA9'.out.bel.setCell (by simp) _⟩
              · rw [heap_setCell_other _ _ _ _ (by simp)]; exact hA9'.out.res
              · rw [heap_setCell_same _ _ _ _ _ _ hA9'.out.out]; rfl
        · have h2' : q < d := by omega
          clear h2
          go_wp2_with (refine wpList_load_guard rfl 27 _ rfl bb (o + k * 20) rfl _ _ hrg'.out Tryz.underlying27 rfl rfl ?_)
          go_at_call 34
          refine (hdc'.out _).mono ?_
          rintro e w1 ⟨rfl, hb1⟩
          have hb1' := Lib.hid hb1
          clear hb1
          have hrg1 : Hid (w1.rangeAt bb (o + k * 20) _) := fun j v hj => (hb1'.out.cell (p := ⟨bb, _, none⟩) hbb).trans (hrg'.out j v hj)
          go_wp2_with (refine wpList_load_guard rfl 27 _ rfl bb (o + k * 20) rfl _ _ hrg1.out Tryz.underlying27 rfl rfl ?_)
          go_at_call 34
          refine (hdc'.out _).mono ?_
          rintro e w2 ⟨rfl, hb2⟩
          have hb2' : Hid (Below wr.heap.size wr w2) := hb1'.out.trans (hb2.mono hb1'.out.size)
          clear hb2
          go_wp2_with fail
          refine ⟨⟨k + 1, by omega, by go_num, ?_⟩, by simp [intOf]; omega⟩
          rw [hnext.out, hhit'.out, show decide (d ≤ q) = false from decide_eq_false (by omega), Bool.false_and, Bool.and_false, if_neg (by decide)]
          exact hA'.out.below hb2'.out
      · have h1' : d < p := by omega
        clear h1
        go_wp2_with (refine wpList_load_guard rfl 27 _ rfl bb (o + k * 20) rfl _ _ hrg'.out Tryz.underlying27 rfl rfl ?_)
        go_at_call 34
        refine (hdc'.out _).mono ?_
        rintro e w1 ⟨rfl, hb1⟩
        have hb1' := Lib.hid hb1
        clear hb1
        go_wp2_with fail
        refine ⟨⟨k + 1, by omega, by go_num, ?_⟩, by simp [intOf]; omega⟩
        rw [hnext.out, hhit'.out, show decide (p ≤ d) = false from decide_eq_false (by omega), Bool.false_and, if_neg (by decide)]
        exact hA'.out.below hb1'.out
    · obtain rfl : k = es.length := by omega
      rw [List.take_length] at hxy
      have f0 : wr.cell? ⟨w.heap.size + 1, 0, none⟩ = some (.int .i64 x) := by rw [cell_of_row _ _ _ _ _ _ hA'.out.out]; rfl
      have f1 : wr.cell? ⟨w.heap.size + 1, 1, none⟩ = some (.int .i64 y) := by rw [cell_of_row _ _ _ _ _ _ hA'.out.out]; rfl
      have f2 : wr.cell? ⟨w.heap.size, 0, none⟩ = some (.int .i64 0) := by rw [cell_of_row _ _ _ _ _ _ hA'.out.res]; rfl
      have f3 : wr.cell? ⟨w.heap.size, 1, none⟩ = some (.int .i64 0) := by rw [cell_of_row _ _ _ _ _ _ hA'.out.res]; rfl
      have f4 : wr.frozen? ⟨w.heap.size, 0, none⟩ = false := frozen_of_row _ _ _ _ _ hA'.out.res
      have f5 : wr.frozen? ⟨w.heap.size, 1, none⟩ = false := frozen_of_row _ _ _ _ _ hA'.out.res
      go_wp2_with fail
      refine bodyPost_ret (v := .agg #[.int .i64 x, .int .i64 y]) (by simp [results, Tryz.results12, go_sem, f0, f1, f2, f3]) rfl ⟨by rw [hxy.out], (hA'.out.bel.setCell (Nat.le_refl _) _).setCell (Nat.le_refl _) _⟩
end Go.Proofs.YtlemadbmlnjhpaaGreatDoor
