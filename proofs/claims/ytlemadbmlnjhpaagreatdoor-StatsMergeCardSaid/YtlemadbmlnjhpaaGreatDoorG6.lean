/- The model's of. -/
/- few. -/
/- build. -/
/- Sizes, known. -/
import Derived.Test.YtlemadbmlnjhpaaGreatDoorG5
import Derived.Lib.QuietBelow
namespace Go.Proofs.YtlemadbmlnjhpaaGreatDoor
open Go Go.RowKit Go.Proofs
set_option linter.unusedSimpArgs false
set_option linter.unusedVariables false

def Ev.hit (e : Ev) (kind : Int) (name : ByteArray) (a b : Int) : Bool := decide (a ≤ e.mi / 1440) && (decide (e.mi / 1440 ≤ b) && ((name.toList == []) || e.has kind name))
def ofStep (kind : Int) (name : ByteArray) (a b : Int) (c : Cnt) (e : Ev) : Cnt := if e.hit kind name a b then (c.1 + 1, c.2 + e.b) else c
def ofM (es : List Ev) (kind : Int) (name : ByteArray) (a b : Int) : Cnt := es.foldl (ofStep kind name a b) (0, 0)
theorem ofM_snoc (es : List Ev) (e : Ev) (kind : Int) (name : ByteArray) (a b : Int) : ofM (es ++ [e]) kind name a b = if e.hit kind name a b then ((ofM es kind name a b).1 + 1, (ofM es kind name a b).2 + e.b) else ofM es kind name a b := by
  simp [ofM, ofStep]
theorem Ev.ok {e : Ev} (h : e.err = 0) : (0 ≤ e.mi ∧ e.mi ≤ 105190559) ∧ 0 ≤ e.b ∧ e.b ≤ 65536 := ⟨(evErr_zero h).1, (evErr_zero h).2.2.2⟩
theorem ofM_bound (kind : Int) (name : ByteArray) (a b : Int) : ∀ (n : Nat) (es : List Ev), es.length = n → (∀ e ∈ es, e.err = 0) → 0 ≤ (ofM es kind name a b).1 ∧ (ofM es kind name a b).1 ≤ n ∧ 0 ≤ (ofM es kind name a b).2 ∧ (ofM es kind name a b).2 ≤ n * 65536
  | 0, es, hl, _ => by obtain rfl : es = [] := List.eq_nil_of_length_eq_zero hl; simp [ofM]
  | n + 1, es, hl, h => by
    obtain ⟨xs, e, rfl⟩ : ∃ xs e, es = xs ++ [e] := ⟨es.dropLast, es.getLast (by intro h0; subst h0; simp at hl), (List.dropLast_concat_getLast _).symm⟩
    have ih := ofM_bound kind name a b n xs (by simpa using hl) (fun x hx => h x (by simp [hx]))
    have he := Ev.ok (h e (by simp))
    rw [ofM_snoc]
    split <;> (try simp only []) <;> omega
theorem take_some {α : Type} {l : List α} {k : Nat} {e : α} (h : l[k]? = some e) : l.take (k + 1) = l.take k ++ [e] := by
  obtain ⟨hk, rfl⟩ := List.getElem?_eq_some_iff.1 h
  exact List.take_succ_eq_append_getElem hk

theorem wpList_load_guard {P : Program} {ops : Array Oper} {rest : List Oper} {op : Oper} {a : Act} {w : World} {Q : Exit → Act → World → Prop} (hgd : Region.wanted op (yielded ops a.tmps) = true) (ty : TypeId) (x : Operand) (ho : op.op = .load ty x)
    (b o : Nat) (hx : a.eval x = .pointer (some ⟨b, o, none⟩)) (cs : List Value) (d : TypeDesc) (hc : w.rangeAt b o cs)
    (hu : P.underlying ty = some d) (hd : d.isRow = true) (hi : (P.info? ty).map (·.size) = some cs.length)
    (h : wpList P ops Q rest (a.put op.dst (.agg cs.toArray)) w) : wpList P ops Q (op :: rest) a w :=
  wpList_step fun _ hK => by rw [if_pos hgd]; exact wp_load_mid ty x ho b o hx cs d hc hu hd hi (hK _ _ h)
/-- the state of the model's loop -/
structure OfAt (w wr : World) (x y : Int) : Prop where
  res : wr.heap[w.heap.size]? = some (.cells #[.int .i64 0, .int .i64 0] 34 (0, 0))
  out : wr.heap[w.heap.size + 1]? = some (.cells #[.int .i64 x, .int .i64 y] 34 (0, 0))
  bel : Below w.heap.size w wr
theorem OfAt.lt {w wr : World} {x y : Int} (h : OfAt w wr x y) : w.heap.size + 1 < wr.heap.size := (Array.getElem?_eq_some_iff.1 h.out).1
theorem OfAt.below {w wr w' : World} {x y : Int} (h : OfAt w wr x y) (hb : Below wr.heap.size wr w') : OfAt w w' x y :=
  ⟨(hb.block _ (by have := h.lt; omega)).trans h.res, (hb.block _ h.lt).trans h.out, h.bel.trans (hb.mono h.bel.size)⟩

set_option maxRecDepth 100000 in
set_option maxHeartbeats 3200000 in
theorem mof_any (v : Value) (es : List Ev) (kind : Int) (name : ByteArray) (p q : Int) (w : World) (hv : SliceEv w v es) (hok : ∀ e ∈ es, e.err = 0) (hl : es.length ≤ 1000) :
    Calls Tryz.prog 12 #[v, .int .i64 kind, .string name, .int .i64 p, .int .i64 q] w fun e w' => e = .returned (.agg #[.int .i64 (ofM es kind name p q).1, .int .i64 (ofM es kind name p q).2]) ∧ Below w.heap.size w w' := by
  obtain ⟨va, vc, rfl, _, hvf⟩ := hv.form
  clear hvf
  have hv' := Lib.hid hv
  have hok' := Lib.hid hok
  clear hv hok
  obtain ⟨W, hW⟩ : ∃ W, W = (w.alloc (.cells #[.int .i64 0, .int .i64 0] 34)).alloc (.cells #[.int .i64 0, .int .i64 0] 34) := ⟨_, rfl⟩
  have h0 : OfAt w W 0 0 := by rw [hW]; exact ⟨heap_alloc2_old _ _ _, heap_alloc2_new _ _ _, ((Below.refl _ _).alloc (Nat.le_refl _) _).alloc (by simp) _⟩
  go_enter Tryz.func12, Tryz.ntmps12
  go_wp2_with fail
  rw [← hW]
  have h0' := Lib.hid h0
  clear h0 hW
  go_loopw [12] (fun i wr => ∃ k : Nat, k ≤ es.length ∧ i = .int .i64 k ∧ OfAt w wr (ofM (es.take k) kind name p q).1 (ofM (es.take k) kind name p q).2) (fun i _ => es.length - (intOf i).toNat)
  case atStart => exact ⟨0, by omega, rfl, h0'.out⟩
  case round =>
    obtain ⟨k, hk0, rfl, hA⟩ := hrel
    have hbd := ofM_bound kind name p q k (es.take k) (by simp; omega) (fun e he => hok'.out e (List.mem_of_mem_take he))
    obtain ⟨x, hx⟩ : ∃ x, x = (ofM (es.take k) kind name p q).1 := ⟨_, rfl⟩
    obtain ⟨y, hy⟩ : ∃ x, x = (ofM (es.take k) kind name p q).2 := ⟨_, rfl⟩
    rw [← hx, ← hy] at hA hbd
    have hxy : Hid (ofM (es.take k) kind name p q = (x, y)) := by show _ = _; rw [hx, hy]
    have hA' := Lib.hid hA
    clear hx hy hA
    obtain ⟨bd1, bd2, bd3, bd4⟩ := hbd
    by_cases hk : k < es.length
    · obtain ⟨ev, hev⟩ : ∃ e, es[k]? = some e := ⟨_, List.getElem?_eq_getElem hk⟩
      obtain ⟨⟨em1, em2⟩, eb1, eb2⟩ := Ev.ok (hok'.out ev (List.mem_of_getElem? hev))
      obtain ⟨va', vc', hform, _, hvf⟩ := hv'.out.form
      cases hform
      obtain ⟨bb, o, cs, rfl, hrg0, hea⟩ := hvf k ev hev
      have hbb0 : bb < w.heap.size := World.block_lt_of_cell? w _ (hrg0 0 (.int .i64 ev.mi) (by obtain ⟨v1, v2, v3, v4, v5, v6, v7, v8, v9, v10, v11, v12, v13, v14, v15, v16, g, sv, e, _⟩ := hea; rw [e]; rfl))
      have hrg : wr.rangeAt bb (o + k * 20) cs := fun j v hj => (hA'.out.bel.cell (p := ⟨bb, _, none⟩) hbb0).trans (hrg0 j v hj)
      have hbb : bb < wr.heap.size := Nat.lt_of_lt_of_le hbb0 hA'.out.bel.size
      obtain ⟨v1, v2, v3, v4, v5, v6, v7, v8, v9, v10, v11, v12, v13, v14, v15, v16, g, sv, rfl, hau, hg, hs, _, _⟩ := hea.below hA'.out.bel
      clear hrg0
      have hnext : Hid (ofM (es.take (k + 1)) kind name p q = if ev.hit kind name p q then (x + 1, y + ev.b) else (x, y)) := by show _ = _; rw [take_some hev, ofM_snoc, hxy.out]
      have hdc := fun W => mday_lit ev.mi ev.b v1 v2 v3 v4 v5 v6 v7 v8 v9 v10 v11 v12 v13 v14 v15 v16 g sv W em1 em2
      have hhc := fun W (h : Below wr.heap.size wr W) => has_lit ev v1 v2 v3 v4 v5 v6 v7 v8 v9 v10 v11 v12 v13 v14 v15 v16 g sv hau kind name W (hg.below h) (hs.below h)
      have hhit : ev.hit kind name p q = (decide (p ≤ ev.mi / 1440) && (decide (ev.mi / 1440 ≤ q) && ((name.toList == []) || ev.has kind name))) := rfl
      obtain ⟨d, hd⟩ : ∃ d, d = ev.mi / 1440 := ⟨_, rfl⟩
      obtain ⟨mi, hmi⟩ : ∃ d, d = ev.mi := ⟨_, rfl⟩
      obtain ⟨b, hb⟩ : ∃ d, d = ev.b := ⟨_, rfl⟩
      obtain ⟨hb', hhb⟩ : ∃ d, d = ev.has kind name := ⟨_, rfl⟩
      obtain ⟨hq, hhq⟩ : ∃ d, d = ev.hit kind name p q := ⟨_, rfl⟩
      rw [← hd] at hdc hhit
      rw [← hhb] at hhit
      rw [← hhb] at hhc
      rw [← hmi, ← hb] at hhc
      rw [← hmi, ← hb] at hrg
      rw [← hmi, ← hb] at hdc
      rw [← hhq] at hhit hnext
      rw [← hb] at hnext eb1 eb2
      rw [← hmi] at em1 em2
      have hdc' := Lib.hid hdc
      have hhc' := Lib.hid hhc
      have hrg' := Lib.hid hrg
      have hhit' := Lib.hid hhit
      clear hdc hhc hrg hhit hd hmi hb hhb hhq hau hg hs hvf hev
      by_cases h1 : p ≤ d
      · by_cases h2 : d ≤ q
        · by_cases h3 : name.toList = []
          · go_wp2_with (refine wpList_load_guard rfl 27 _ rfl bb (o + k * 20) rfl _ _ hrg'.out Tryz.underlying27 rfl rfl ?_)
            go_at_call 34
            refine (hdc'.out _).mono ?_
            rintro e w1 ⟨rfl, hb1⟩
            have hb1' := Lib.hid hb1
            clear hb1
            have hrg1 : Hid (w1.rangeAt bb (o + k * 20) _) := fun j v hj => (hb1'.out.cell (p := ⟨bb, _, none⟩) hbb).trans (hrg'.out j v hj)
            go_wp2_with (refine wpList_load_guard rfl 27 _ rfl bb (o + k * 20) rfl _ _ hrg1.out Tryz.underlying27 rfl rfl ?_)
            go_at_call 34
            refine (hdc'.out _).mono ?_
            rintro e w2 ⟨rfl, hb2⟩
            have hb2' : Hid (Below wr.heap.size wr w2) := hb1'.out.trans (hb2.mono hb1'.out.size)
            clear hb2
            have hA2 : OfAt w w2 x y := hA'.out.below hb2'.out
            have k0 : w2.cell? ⟨w.heap.size + 1, 0, none⟩ = some (.int .i64 x) := by rw [cell_of_row _ _ _ _ _ _ hA2.out]; rfl
            have k1 : w2.frozen? ⟨w.heap.size + 1, 0, none⟩ = false := frozen_of_row _ _ _ _ _ hA2.out
            obtain ⟨W8, hW8⟩ : ∃ W8, W8 = w2.setCell ⟨w.heap.size + 1, 0, none⟩ (.int .i64 (x + 1)) := ⟨_, rfl⟩
            have hA3 : OfAt w W8 (x + 1) y := by
              rw [hW8]
              refine ⟨?_, ?_, hA2.bel.setCell (by simp) _⟩
              · rw [heap_setCell_other _ _ _ _ (by simp)]; exact hA2.res
              · rw [heap_setCell_same _ _ _ _ _ _ hA2.out]; rfl
            have hb8 : W8.cell? ⟨bb, o + k * 20 + 19, none⟩ = some (.int .i64 b) := by
              rw [hW8, World.cell?_of_block (heap_setCell_other _ _ _ _ (by simp; omega))]
              exact (hb2'.out.cell (p := ⟨bb, o + k * 20 + 19, none⟩) hbb).trans (hrg'.out 19 _ rfl)
            have hA2' := Lib.hid hA2
            have hA3' := Lib.hid hA3
            have hb8' := Lib.hid hb8
            have hW8' := Lib.hid hW8
            clear hA2 hA3 hb8 hW8
            go_wp2_with fail
            rw [← hW8'.out]
            have m0 : W8.cell? ⟨w.heap.size + 1, 1, none⟩ = some (.int .i64 y) := by rw [cell_of_row _ _ _ _ _ _ hA3'.out.out]; rfl
            have m1 := hb8'.out
            have m2 : W8.frozen? ⟨w.heap.size + 1, 1, none⟩ = false := frozen_of_row _ _ _ _ _ hA3'.out.out
            have hx0 : (0 : Int) ≤ (k : Int) := by omega
            have hx1 : (k : Int) < (es.length : Int) := by omega
            clear k0 k1
            refine wp_region_still_tail 9 (by kernel_rfl) (by kernel_rfl) ?_
            simp only [List.take_succ_cons, List.take_zero, List.drop_succ_cons, List.drop_zero]
            repeat still_step
            refine wpStill_nil ?_
            obtain ⟨W9, hW9⟩ : ∃ W9, W9 = W8.drew := ⟨_, rfl⟩
            have hA9 : OfAt w W9 (x + 1) y := by rw [hW9]; exact hA3'.out.below ((Below.refl _ W8).drew)
            have n0 : W9.cell? ⟨w.heap.size + 1, 1, none⟩ = some (.int .i64 y) := by rw [cell_of_row _ _ _ _ _ _ hA9.out]; rfl
            have n2 : W9.frozen? ⟨w.heap.size + 1, 1, none⟩ = false := frozen_of_row _ _ _ _ _ hA9.out
            change wpList _ _ _ _ _ W8.drew
            rw [← hW9]
            have hA9' := Lib.hid hA9
            clear hA9 m0 m1 m2 hW9
            go_wp2_with fail
            refine ⟨⟨k + 1, by omega, by go_num, ?_⟩, by simp [intOf]; omega⟩
            have hh : hq = true := by rw [hhit'.out]; simp [*]
            rw [hnext.out, if_pos hh]
            refine ⟨?_, ?_, hA9'.out.bel.setCell (by simp) _⟩
            · rw [heap_setCell_other _ _ _ _ (by simp)]; exact hA9'.out.res
            · rw [heap_setCell_same _ _ _ _ _ _ hA9'.out.out]; rfl
          · have h3' : (name.toList == []) = false := by simpa using h3
            cases hb'
            · go_wp2_with (refine wpList_load_guard rfl 27 _ rfl bb (o + k * 20) rfl _ _ hrg'.out Tryz.underlying27 rfl rfl ?_)
              go_at_call 34
              refine (hdc'.out _).mono ?_
              rintro e w1 ⟨rfl, hb1⟩
              have hb1' := Lib.hid hb1
              clear hb1
              have hrg1 : Hid (w1.rangeAt bb (o + k * 20) _) := fun j v hj => (hb1'.out.cell (p := ⟨bb, _, none⟩) hbb).trans (hrg'.out j v hj)
              go_wp2_with (refine wpList_load_guard rfl 27 _ rfl bb (o + k * 20) rfl _ _ hrg1.out Tryz.underlying27 rfl rfl ?_)
              go_at_call 34
              refine (hdc'.out _).mono ?_
              rintro e w2 ⟨rfl, hb2⟩
              have hb2' : Hid (Below wr.heap.size wr w2) := hb1'.out.trans (hb2.mono hb1'.out.size)
              clear hb2
              have hrg2 : Hid (w2.rangeAt bb (o + k * 20) _) := fun j v hj => (hb2'.out.cell (p := ⟨bb, _, none⟩) hbb).trans (hrg'.out j v hj)
              go_wp2_with (refine wpList_load_guard rfl 27 _ rfl bb (o + k * 20) rfl _ _ hrg2.out Tryz.underlying27 rfl rfl ?_)
              go_at_call 35
              refine (hhc'.out _ hb2'.out).mono ?_
              rintro e w3 ⟨rfl, hb3⟩
              have hb3' : Hid (Below wr.heap.size wr w3) := hb2'.out.trans (hb3.mono hb2'.out.size)
              clear hb3
              go_wp2_with fail
              refine ⟨⟨k + 1, by omega, by go_num, ?_⟩, by simp [intOf]; omega⟩
              rw [hnext.out, hhit'.out, h3', Bool.or_false, Bool.and_false, Bool.and_false, if_neg (by decide)]
              exact hA'.out.below hb3'.out
            · go_wp2_with (refine wpList_load_guard rfl 27 _ rfl bb (o + k * 20) rfl _ _ hrg'.out Tryz.underlying27 rfl rfl ?_)
              go_at_call 34
              refine (hdc'.out _).mono ?_
              rintro e w1 ⟨rfl, hb1⟩
              have hb1' := Lib.hid hb1
              clear hb1
              have hrg1 : Hid (w1.rangeAt bb (o + k * 20) _) := fun j v hj => (hb1'.out.cell (p := ⟨bb, _, none⟩) hbb).trans (hrg'.out j v hj)
              go_wp2_with (refine wpList_load_guard rfl 27 _ rfl bb (o + k * 20) rfl _ _ hrg1.out Tryz.underlying27 rfl rfl ?_)
              go_at_call 34
              refine (hdc'.out _).mono ?_
              rintro e w2 ⟨rfl, hb2⟩
              have hb2' : Hid (Below wr.heap.size wr w2) := hb1'.out.trans (hb2.mono hb1'.out.size)
              clear hb2
              have hrg2 : Hid (w2.rangeAt bb (o + k * 20) _) := fun j v hj => (hb2'.out.cell (p := ⟨bb, _, none⟩) hbb).trans (hrg'.out j v hj)
              go_wp2_with (refine wpList_load_guard rfl 27 _ rfl bb (o + k * 20) rfl _ _ hrg2.out Tryz.underlying27 rfl rfl ?_)
              go_at_call 35
              refine (hhc'.out _ hb2'.out).mono ?_
              rintro e w3 ⟨rfl, hb3⟩
              have hb3' : Hid (Below wr.heap.size wr w3) := hb2'.out.trans (hb3.mono hb2'.out.size)
              clear hb3
              have hA2 : OfAt w w3 x y := hA'.out.below hb3'.out
              have k0 : w3.cell? ⟨w.heap.size + 1, 0, none⟩ = some (.int .i64 x) := by rw [cell_of_row _ _ _ _ _ _ hA2.out]; rfl
              have k1 : w3.frozen? ⟨w.heap.size + 1, 0, none⟩ = false := frozen_of_row _ _ _ _ _ hA2.out
              obtain ⟨W8, hW8⟩ : ∃ W8, W8 = w3.setCell ⟨w.heap.size + 1, 0, none⟩ (.int .i64 (x + 1)) := ⟨_, rfl⟩
              have hA3 : OfAt w W8 (x + 1) y := by
                rw [hW8]
                refine ⟨?_, ?_, hA2.bel.setCell (by simp) _⟩
                · rw [heap_setCell_other _ _ _ _ (by simp)]; exact hA2.res
                · rw [heap_setCell_same _ _ _ _ _ _ hA2.out]; rfl
              have hb8 : W8.cell? ⟨bb, o + k * 20 + 19, none⟩ = some (.int .i64 b) := by
                rw [hW8, World.cell?_of_block (heap_setCell_other _ _ _ _ (by simp; omega))]
                exact (hb3'.out.cell (p := ⟨bb, o + k * 20 + 19, none⟩) hbb).trans (hrg'.out 19 _ rfl)
              have hA2' := Lib.hid hA2
              have hA3' := Lib.hid hA3
              have hb8' := Lib.hid hb8
              have hW8' := Lib.hid hW8
              clear hA2 hA3 hb8 hW8
              go_wp2_with fail
              rw [← hW8'.out]
              have m0 : W8.cell? ⟨w.heap.size + 1, 1, none⟩ = some (.int .i64 y) := by rw [cell_of_row _ _ _ _ _ _ hA3'.out.out]; rfl
              have m1 := hb8'.out
              have m2 : W8.frozen? ⟨w.heap.size + 1, 1, none⟩ = false := frozen_of_row _ _ _ _ _ hA3'.out.out
              have hx0 : (0 : Int) ≤ (k : Int) := by omega
              have hx1 : (k : Int) < (es.length : Int) := by omega
              clear k0 k1
              refine wp_region_still_tail 9 (by kernel_rfl) (by kernel_rfl) ?_
              simp only [List.take_succ_cons, List.take_zero, List.drop_succ_cons, List.drop_zero]
              repeat still_step
              refine wpStill_nil ?_
              obtain ⟨W9, hW9⟩ : ∃ W9, W9 = W8.drew := ⟨_, rfl⟩
              have hA9 : OfAt w W9 (x + 1) y := by rw [hW9]; exact hA3'.out.below ((Below.refl _ W8).drew)
              have n0 : W9.cell? ⟨w.heap.size + 1, 1, none⟩ = some (.int .i64 y) := by rw [cell_of_row _ _ _ _ _ _ hA9.out]; rfl
              have n2 : W9.frozen? ⟨w.heap.size + 1, 1, none⟩ = false := frozen_of_row _ _ _ _ _ hA9.out
              change wpList _ _ _ _ _ W8.drew
              rw [← hW9]
              have hA9' := Lib.hid hA9
              clear hA9 m0 m1 m2 hW9
              go_wp2_with fail
              refine ⟨⟨k + 1, by omega, by go_num, ?_⟩, by simp [intOf]; omega⟩
              have hh : hq = true := by rw [hhit'.out]; simp [*]
              rw [hnext.out, if_pos hh]
              refine ⟨?_, ?_, hA9'.out.bel.setCell (by simp) _⟩
              · rw [heap_setCell_other _ _ _ _ (by simp)]; exact hA9'.out.res
              · rw [heap_setCell_same _ _ _ _ _ _ hA9'.out.out]; rfl
        · have h2' : q < d := by omega
          clear h2
          go_wp2_with (refine wpList_load_guard rfl 27 _ rfl bb (o + k * 20) rfl _ _ hrg'.out Tryz.underlying27 rfl rfl ?_)
          go_at_call 34
          refine (hdc'.out _).mono ?_
          rintro e w1 ⟨rfl, hb1⟩
          have hb1' := Lib.hid hb1
          clear hb1
          have hrg1 : Hid (w1.rangeAt bb (o + k * 20) _) := fun j v hj => (hb1'.out.cell (p := ⟨bb, _, none⟩) hbb).trans (hrg'.out j v hj)
          go_wp2_with (refine wpList_load_guard rfl 27 _ rfl bb (o + k * 20) rfl _ _ hrg1.out Tryz.underlying27 rfl rfl ?_)
          go_at_call 34
          refine (hdc'.out _).mono ?_
          rintro e w2 ⟨rfl, hb2⟩
          have hb2' : Hid (Below wr.heap.size wr w2) := hb1'.out.trans (hb2.mono hb1'.out.size)
          clear hb2
          go_wp2_with fail
          refine ⟨⟨k + 1, by omega, by go_num, ?_⟩, by simp [intOf]; omega⟩
          rw [hnext.out, hhit'.out, show decide (d ≤ q) = false from decide_eq_false (by omega), Bool.false_and, Bool.and_false, if_neg (by decide)]
          exact hA'.out.below hb2'.out
      · have h1' : d < p := by omega
        clear h1
        go_wp2_with (refine wpList_load_guard rfl 27 _ rfl bb (o + k * 20) rfl _ _ hrg'.out Tryz.underlying27 rfl rfl ?_)
        go_at_call 34
        refine (hdc'.out _).mono ?_
        rintro e w1 ⟨rfl, hb1⟩
        have hb1' := Lib.hid hb1
        clear hb1
        go_wp2_with fail
        refine ⟨⟨k + 1, by omega, by go_num, ?_⟩, by simp [intOf]; omega⟩
        rw [hnext.out, hhit'.out, show decide (p ≤ d) = false from decide_eq_false (by omega), Bool.false_and, if_neg (by decide)]
        exact hA'.out.below hb1'.out
    · obtain rfl : k = es.length := by omega
      rw [List.take_length] at hxy
      have f0 : wr.cell? ⟨w.heap.size + 1, 0, none⟩ = some (.int .i64 x) := by rw [cell_of_row _ _ _ _ _ _ hA'.out.out]; rfl
      have f1 : wr.cell? ⟨w.heap.size + 1, 1, none⟩ = some (.int .i64 y) := by rw [cell_of_row _ _ _ _ _ _ hA'.out.out]; rfl
      have f2 : wr.cell? ⟨w.heap.size, 0, none⟩ = some (.int .i64 0) := by rw [cell_of_row _ _ _ _ _ _ hA'.out.res]; rfl
      have f3 : wr.cell? ⟨w.heap.size, 1, none⟩ = some (.int .i64 0) := by rw [cell_of_row _ _ _ _ _ _ hA'.out.res]; rfl
      have f4 : wr.frozen? ⟨w.heap.size, 0, none⟩ = false := frozen_of_row _ _ _ _ _ hA'.out.res
      have f5 : wr.frozen? ⟨w.heap.size, 1, none⟩ = false := frozen_of_row _ _ _ _ _ hA'.out.res
      go_wp2_with fail
      refine bodyPost_ret (v := .agg #[.int .i64 x, .int .i64 y]) (by simp [results, Tryz.results12, go_sem, f0, f1, f2, f3]) rfl ⟨by rw [hxy.out], (hA'.out.bel.setCell (Nat.le_refl _) _).setCell (Nat.le_refl _) _⟩
end Go.Proofs.YtlemadbmlnjhpaaGreatDoor
namespace Go.Proofs.YtlemadbmlnjhpaaGreatDoor
open Go Go.RowKit Go.Proofs
set_option linter.unusedSimpArgs false
set_option linter.unusedVariables false

def FewEnd (es : List Ev) (w : World) (e : Ending) (w' : World) : Prop := (∃ fb : Bool, e = .returned (.bool fb) ∧ (fb = true → es.length ≤ 20)) ∧ w = w'
set_option maxRecDepth 100000 in
set_option maxHeartbeats 3200000 in
theorem few_any (v : Value) (es : List Ev) (w : World) (hv : SliceEv w v es) : Calls Tryz.prog 9 #[v] w (FewEnd es w) := by
  obtain ⟨va, vc, rfl, hlen, hvf⟩ := hv.form
  have hvf' := Lib.hid hvf
  clear hvf hv
  go_enter Tryz.func9, Tryz.ntmps9
  go_wp2_with fail
  go_loop [3] (fun i => ∃ k : Nat, k ≤ es.length ∧ i = .int .i64 k) (fun i => es.length - (intOf i).toNat)
  case atStart => exact ⟨0, by omega, rfl⟩
  case round =>
    obtain ⟨k, hk0, rfl⟩ := hrel
    by_cases hk : k < es.length
    · obtain ⟨bb, o, cs, rfl, hrg, v1, v2, v3, v4, v5, v6, v7, v8, v9, v10, v11, v12, v13, v14, v15, v16, g, sv, rfl, hau, hg, hs, _, _⟩ := hvf'.out k es[k] (List.getElem?_eq_getElem hk)
      obtain ⟨gs, hgs⟩ : ∃ x, x = es[k].gs := ⟨_, rfl⟩
      obtain ⟨ss, hss⟩ : ∃ x, x = es[k].ss := ⟨_, rfl⟩
      rw [← hgs] at hg
      rw [← hss] at hs
      clear hgs hss
      obtain ⟨ga, gc, rfl, hgf⟩ := hg.form
      obtain ⟨sa, sc, rfl, hsf⟩ := hs.form
      have hgl := hg.len_le
      have hsl := hs.len_le
      have q17 := hrg 17 _ rfl
      have q18 := hrg 18 _ rfl
      have hgf' := Lib.hid hgf
      have hsf' := Lib.hid hsf
      clear hgf hsf hg hs hrg hau
      go_wp2_with fail
      go_loop [4, 5] (fun n i => ∃ (x : Int) (j : Nat), j ≤ gs.length ∧ n = .int .i64 x ∧ i = .int .i64 j) (fun _ i => gs.length - (intOf i).toNat)
      case atStart => exact ⟨0, 0, by omega, rfl, rfl⟩
      case round =>
        obtain ⟨x, j, hj0, rfl, rfl⟩ := hrel
        by_cases hj : j < gs.length
        · obtain ⟨bg, og, rfl, hc⟩ := hgf'.out j hj
          obtain ⟨z, hz⟩ : ∃ z, z = gs.getD j ByteArray.empty := ⟨_, rfl⟩
          rw [← hz] at hc
          clear hz
          go_wp2_with fail
          exact ⟨⟨_, j + 1, by omega, rfl, by go_num⟩, by simp [intOf]; omega⟩
        · go_wp2_with fail
          go_loop [4, 6] (fun n i => ∃ (x : Int) (j : Nat), j ≤ ss.length ∧ n = .int .i64 x ∧ i = .int .i64 j) (fun _ i => ss.length - (intOf i).toNat)
          case atStart => exact ⟨x, 0, by omega, rfl, rfl⟩
          case round =>
            obtain ⟨y, m, hm0, rfl, rfl⟩ := hrel
            by_cases hm : m < ss.length
            · obtain ⟨bs, os, rfl, hc⟩ := hsf'.out m hm
              obtain ⟨z, hz⟩ : ∃ z, z = ss.getD m ByteArray.empty := ⟨_, rfl⟩
              rw [← hz] at hc
              clear hz
              go_wp2_with fail
              exact ⟨⟨_, m + 1, by omega, rfl, by go_num⟩, by simp [intOf]; omega⟩
            · by_cases h30 : 30 < gs.length
              · go_wp2_with fail
                go_ret
                exact ⟨⟨false, rfl, fun h => by cases h⟩, rfl⟩
              · have h30' : gs.length ≤ 30 := by omega
                clear h30
                by_cases h80 : 80 < ss.length
                · go_wp2_with fail
                  go_ret
                  exact ⟨⟨false, rfl, fun h => by cases h⟩, rfl⟩
                · have h80' : ss.length ≤ 80 := by omega
                  clear h80
                  by_cases h4 : 4000 < y
                  · go_wp2_with fail
                    go_ret
                    exact ⟨⟨false, rfl, fun h => by cases h⟩, rfl⟩
                  · have h4' : y ≤ 4000 := by omega
                    clear h4
                    go_wp2_with fail
                    exact ⟨⟨k + 1, by omega, by go_num⟩, by simp [intOf]; omega⟩
    · go_wp2_with fail
      go_ret
      exact ⟨⟨_, rfl, fun h => by simp at h; omega⟩, rfl⟩
end Go.Proofs.YtlemadbmlnjhpaaGreatDoor
namespace Go.Proofs.YtlemadbmlnjhpaaGreatDoor
open Go Go.RowKit Go.Proofs
set_option linter.unusedSimpArgs false
set_option linter.unusedVariables false

def addsL (L : List (Key × Cnt)) (es : List Ev) : List (Key × Cnt) := es.foldl (fun L e => addL L e.mi e.au e.gs e.ss e.b) L
def addsZ (zs : List Int) (es : List Ev) : List Int := es.foldl (fun zs e => addZ zs e.mi e.gs e.ss e.b) zs
theorem addsL_snoc (L : List (Key × Cnt)) (es : List Ev) (e : Ev) : addsL L (es ++ [e]) = addL (addsL L es) e.mi e.au e.gs e.ss e.b := by simp [addsL]
theorem addsZ_snoc (zs : List Int) (es : List Ev) (e : Ev) : addsZ zs (es ++ [e]) = addZ (addsZ zs es) e.mi e.gs e.ss e.b := by simp [addsZ]
def okEvs (es : List Ev) : List Ev := es.filter fun e => e.err == 0
theorem okEvs_snoc (es : List Ev) (e : Ev) : okEvs (es ++ [e]) = if e.err = 0 then okEvs es ++ [e] else okEvs es := by
  unfold okEvs
  rw [List.filter_append]
  by_cases h : e.err = 0 <;> simp [h]
theorem addsL_bnd : ∀ (es : List Ev) (L : List (Key × Cnt)) (N : Int), BndN L N → BndN (addsL L es) (N + 100 * es.length)
  | [], L, N, h => by simpa [addsL] using h
  | e :: r, L, N, h => by
    have := addsL_bnd r _ _ (h.add e.mi e.au e.gs e.ss e.b)
    have e2 : N + 100 + 100 * (r.length : Int) = N + 100 * ((e :: r).length : Int) := by simp; omega
    rw [e2] at this; exact this
theorem addsZ_bnd : ∀ (es : List Ev) (zs : List Int) (N : Int), SzN zs N → 0 ≤ N → SzN (addsZ zs es) (N + 100 * es.length)
  | [], L, N, h, _ => by simpa [addsZ] using h
  | e :: r, L, N, h, h0 => by
    have := addsZ_bnd r _ _ (h.add h0 e.mi e.gs e.ss e.b) (by omega)
    have e2 : N + 100 + 100 * (r.length : Int) = N + 100 * ((e :: r).length : Int) := by simp; omega
    rw [e2] at this; exact this
theorem bnd_nil : BndN [] 0 := ⟨fun q hq => by simp at hq, by simp [sumBy], by simp [sumBy]⟩
theorem sz_none : SzN noSizes 0 := fun z hz => by simp [noSizes] at hz; omega

theorem Kept.toBelow {B B' sb m : Nat} {a b : World} (h : Kept B sb m a b) (h1 : B' ≤ B) (h2 : B' ≤ sb) (h3 : B' ≤ m) : Below B' a b :=
  ⟨h.os, h.tape, h.output, h.size, fun k hk => h.block k (by omega) (by omega) (by omega)⟩
theorem ownsRow_block {w w' : World} {base : Nat} {e : TypeId} {size : Nat} {v : Value} {n : Nat} {xs : List Value} (h : w.ownsRow base e size v n xs) (hb : ∀ g, base ≤ g → g < w.heap.size → w'.heap[g]? = w.heap[g]?) : w'.ownsRow base e size v n xs := by
  refine ⟨h.1, ?_⟩
  rcases h.2 with hn | ⟨g, cap, cur, rfl, hbg, hgg, rest⟩
  · exact .inl hn
  · exact .inr ⟨g, cap, cur, rfl, hbg, (hb g hbg (Array.getElem?_eq_some_iff.1 hgg).1).trans hgg, rest⟩

/-- a slice of the call's own that holds events of an elder world -/
def OwnEv (w wr : World) (base : Nat) (ov : Value) (os : List Ev) : Prop :=
  ∃ xs, wr.ownsRow base 27 20 ov os.length xs ∧ ∀ k e, os[k]? = some e → ∃ cs, (∀ j u, cs[j]? = some u → xs[k * 20 + j]? = some u) ∧ EvAt w e cs
theorem OwnEv.block {w wr w' : World} {base : Nat} {ov : Value} {os : List Ev} (h : OwnEv w wr base ov os) (hb : ∀ g, base ≤ g → g < wr.heap.size → w'.heap[g]? = wr.heap[g]?) : OwnEv w w' base ov os := by
  obtain ⟨xs, h1, h2⟩ := h
  exact ⟨xs, ownsRow_block h1 hb, h2⟩
theorem OwnEv.slice {w wr : World} {base : Nat} {ov : Value} {os : List Ev} (h : OwnEv w wr base ov os) (hl : os.length ≤ 9223372036854775807) (hb : Below w.heap.size w wr) : SliceEv wr ov os := by
  obtain ⟨xs, ⟨h1, h2⟩, h3⟩ := h
  rcases h2 with ⟨rfl, h0⟩ | ⟨g, cap, cur, rfl, hb', hg, h4, h5, h6, h7⟩
  · exact .inl ⟨_, _, rfl, List.eq_nil_of_length_eq_zero h0⟩
  · refine .inr ⟨g, 0, cap, rfl, ⟨by unfold maxLen at h5; omega, hl⟩, (Array.getElem?_eq_some_iff.1 hg).1, fun k e hk => ?_⟩
    obtain ⟨cs, hc1, hc2⟩ := h3 k e hk
    refine ⟨cs, fun j u hj => ?_, hc2.below hb⟩
    rw [cell_of_row _ _ _ _ _ _ hg]
    have hx := hc1 j u hj
    rw [← h7, List.getElem?_take] at hx
    split at hx
    · rw [Nat.zero_add, ← Array.getElem?_toList]; exact hx
    · cases hx
theorem OwnEv.append {w w' : World} {base : Nat} {ov : Value} {os : List Ev} {xs cs : List Value} {ev : Ev} (hl : xs.length = os.length * 20) (h : w'.ownsRow base 27 20 ov (os.length + 1) (xs ++ cs)) (h2 : ∀ k e, os[k]? = some e → ∃ cs, (∀ j u, cs[j]? = some u → xs[k * 20 + j]? = some u) ∧ EvAt w e cs) (he : EvAt w ev cs) : OwnEv w w' base ov (os ++ [ev]) := by
  refine ⟨xs ++ cs, by simpa using h, fun k e hk => ?_⟩
  rcases Nat.lt_or_ge k os.length with hlt | hge
  · rw [List.getElem?_append_left hlt] at hk
    obtain ⟨ds, h3, h4⟩ := h2 k e hk
    refine ⟨ds, fun j u hj => ?_, h4⟩
    have := h3 j u hj
    rw [List.getElem?_append_left (List.getElem?_eq_some_iff.1 this).1]; exact this
  · rw [List.getElem?_append_right hge] at hk
    have hk0 : k - os.length = 0 := by
      rcases Nat.eq_zero_or_pos (k - os.length) with h | h
      · exact h
      · rw [List.getElem?_eq_none (by simp only [List.length_singleton]; omega)] at hk; cases hk
    rw [hk0] at hk
    obtain rfl : ev = e := by simpa using hk
    have hke : k = os.length := by omega
    refine ⟨cs, fun j u hj => ?_, he⟩
    rw [List.getElem?_append_right (by rw [hl, hke]; omega), hl, hke]
    rw [show os.length * 20 + j - os.length * 20 = j by omega]; exact hj

structure BuildAt (w wr : World) (es : List Ev) (ov : Value) : Prop where
  bel : Below w.heap.size w wr
  st : StatsAt wr (w.heap.size + 1) w.heap.size (addsL [] es) (addsZ noSizes es)
  own : OwnEv w wr (w.heap.size + 2) ov (okEvs es)
theorem BuildAt.below {w wr w' : World} {es : List Ev} {ov : Value} (h : BuildAt w wr es ov) (hb : Below wr.heap.size wr w') : BuildAt w w' es ov :=
  ⟨h.bel.trans (hb.mono h.bel.size), h.st.below hb, h.own.block fun g _ hg => hb.block g hg⟩
def BuildEnd (w : World) (es : List Ev) (e : Ending) (w' : World) : Prop := ∃ ov, e = .returned (.tuple #[.pointer (some ⟨w.heap.size + 1, 0, none⟩), ov, .bool true]) ∧ BuildAt w w' es ov

theorem EvAt.one {w : World} {e : Ev} {cs : List Value} (h : EvAt w e cs) : ∀ u ∈ cs, u.oneCell' = true := by
  obtain ⟨v1, v2, v3, v4, v5, v6, v7, v8, v9, v10, v11, v12, v13, v14, v15, v16, g, sv, rfl, hau, hg, hs, _⟩ := h
  obtain ⟨ga, gc, rfl, _⟩ := hg.form
  obtain ⟨sa, sc, rfl, _⟩ := hs.form
  have hb : ∀ u ∈ [v1, v2, v3, v4, v5, v6, v7, v8, v9, v10, v11, v12, v13, v14, v15, v16], u.oneCell' = true := by
    rw [hau]; intro u hu
    simp only [byteVals, List.mem_map] at hu
    obtain ⟨c, _, rfl⟩ := hu; rfl
  intro u hu
  rcases List.mem_cons.1 hu with rfl | hu
  · rfl
  · rcases List.mem_append.1 (show u ∈ [v1, v2, v3, v4, v5, v6, v7, v8, v9, v10, v11, v12, v13, v14, v15, v16] ++ [.slice ga e.gs.length gc, .slice sa e.ss.length sc, .int .i64 e.b] from hu) with h | h
    · exact hb u h
    · simp only [List.mem_cons, List.mem_nil_iff, or_false] at h
      rcases h with rfl | rfl | rfl <;> rfl
theorem StatsAt.block {w w' : World} {sb m : Nat} {L : List (Key × Cnt)} {zs : List Int} (h : StatsAt w sb m L zs) (h1 : w'.heap[sb]? = w.heap[sb]?) (h2 : w'.heap[m]? = w.heap[m]?) : StatsAt w' sb m L zs := ⟨h1.trans h.1, h.2.1, h.2.2.block h2⟩
theorem Tryz.infoEv : (Tryz.prog.info? 27).map (fun i => (i.zero, i.size, i.bytes)) = some (some (.agg #[.int .i64 0, .int .u8 0, .int .u8 0, .int .u8 0, .int .u8 0, .int .u8 0, .int .u8 0, .int .u8 0, .int .u8 0, .int .u8 0, .int .u8 0, .int .u8 0, .int .u8 0, .int .u8 0, .int .u8 0, .int .u8 0, .int .u8 0, .slice none 0 0, .slice none 0 0, .int .i64 0]), 20, 80) := by kernel_rfl
set_option maxRecDepth 100000 in
set_option maxHeartbeats 3200000 in
theorem build_any (v : Value) (es : List Ev) (w : World) (hv : SliceEv w v es) (hl : es.length ≤ 1000) : Calls Tryz.prog 10 #[v] w (BuildEnd w es) := by
  obtain ⟨i0, hi, hz0, hz1, hz2⟩ := info_parts Tryz.infoEv
  obtain ⟨va, vc, rfl, _, hvf⟩ := hv.form
  have hvf' := Lib.hid hvf
  clear hvf hv
  have hi' := Lib.hid hi
  have hz0' := Lib.hid hz0
  have hz1' := Lib.hid hz1
  have hz2' := Lib.hid hz2
  clear hi hz0 hz1 hz2
  go_enter Tryz.func10, Tryz.ntmps10
  go_wp2_with (go_at_call 25; refine (new_any _).mono ?_; rintro e w0 ⟨rfl, hst0, hbl0⟩; have hst0' := Lib.hid hst0; have hbl0' := Lib.hid hbl0; clear hst0 hbl0)
  go_loopw [6, 7] (fun ov i wr => ∃ k : Nat, k ≤ es.length ∧ i = .int .i64 k ∧ BuildAt w wr (es.take k) ov) (fun _ i _ => es.length - (intOf i).toNat)
  case atStart => exact ⟨0, by omega, rfl, ⟨hbl0'.out, hst0'.out, [], World.ownsRow_nil _ _ _ _, fun k e hk => by simp [okEvs] at hk⟩⟩
  case round =>
    obtain ⟨k, hk0, rfl, hA⟩ := hrel
    have hA' := Lib.hid hA
    clear hA
    by_cases hk : k < es.length
    · obtain ⟨ev, hev⟩ : ∃ e, es[k]? = some e := ⟨_, List.getElem?_eq_getElem hk⟩
      obtain ⟨bb, o, cs, rfl, hrg, hea⟩ := hvf'.out k ev hev
      have hea' := Lib.hid hea
      obtain ⟨v1, v2, v3, v4, v5, v6, v7, v8, v9, v10, v11, v12, v13, v14, v15, v16, g, sv, rfl, hau, hg, hs, _, _⟩ := hea
      have hbb : bb < w.heap.size := World.block_lt_of_cell? w _ (hrg 0 _ rfl)
      have hrgB : ∀ W, Below w.heap.size w W → W.rangeAt bb (o + k * 20) [.int .i64 ev.mi, v1, v2, v3, v4, v5, v6, v7, v8, v9, v10, v11, v12, v13, v14, v15, v16, g, sv, .int .i64 ev.b] := fun W hW j v hj => (hW.cell (p := ⟨bb, _, none⟩) hbb).trans (hrg j v hj)
      have hck := fun W (hW : Below w.heap.size w W) => mcheck_lit ev.mi v1 v2 v3 v4 v5 v6 v7 v8 v9 v10 v11 v12 v13 v14 v15 v16 g sv ev.b ev.gs ev.ss W (hg.below hW) (hs.below hW)
      have hec := fun W (hW : Below w.heap.size w W) => evcheck_lit ev.mi v1 v2 v3 v4 v5 v6 v7 v8 v9 v10 v11 v12 v13 v14 v15 v16 g sv ev.b ev.gs ev.ss W (hg.below hW) (hs.below hW)
      have hbN := addsL_bnd (es.take k) [] 0 bnd_nil
      have hbZ := addsZ_bnd (es.take k) noSizes 0 sz_none (by omega)
      have hkl : (es.take k).length = k := by simp; omega
      rw [hkl] at hbN hbZ
      have hac := fun W (hW : BuildAt w W (es.take k) u6) => add_lit (w.heap.size + 1) w.heap.size (addsL [] (es.take k)) (addsZ noSizes (es.take k)) (0 + 100 * (k : Int)) ev.mi v1 v2 v3 v4 v5 v6 v7 v8 v9 v10 v11 v12 v13 v14 v15 v16 g sv ev.au hau ev.b ev.gs ev.ss W (hg.below hW.bel) (hs.below hW.bel) hW.st hbN (by omega) hbZ
      have hnA : ∀ W W' er, BuildAt w W (es.take k) u6 → AddEnd W (w.heap.size + 1) w.heap.size (addsL [] (es.take k)) (addsZ noSizes (es.take k)) ev.mi ev.au ev.gs ev.ss ev.b er W' →
          Below w.heap.size w W' ∧ StatsAt W' (w.heap.size + 1) w.heap.size (addsL [] (es.take (k + 1))) (addsZ noSizes (es.take (k + 1))) ∧ OwnEv w W' (w.heap.size + 2) u6 (okEvs (es.take k)) ∧ er = .returned (.int .i64 (evErr ev.mi ev.gs ev.ss ev.b)) := fun W W' er hW hE => by
        obtain ⟨h1, h2, h3⟩ := hE
        refine ⟨hW.bel.trans (h3.toBelow hW.bel.size (by omega) (by omega)), ?_, hW.own.block fun g hg1 hg2 => h3.block g hg2 (by omega) (by omega), h1⟩
        rw [take_some hev, addsL_snoc, addsZ_snoc]; exact h2
      have hok : okEvs (es.take (k + 1)) = if evErr ev.mi ev.gs ev.ss ev.b = 0 then okEvs (es.take k) ++ [ev] else okEvs (es.take k) := by rw [take_some hev, okEvs_snoc]; rfl
      obtain ⟨er, her⟩ : ∃ er, er = evErr ev.mi ev.gs ev.ss ev.b := ⟨_, rfl⟩
      rw [← her] at hck hec hok hnA
      obtain ⟨mi, hmi⟩ : ∃ x, x = ev.mi := ⟨_, rfl⟩
      obtain ⟨b, hb⟩ : ∃ x, x = ev.b := ⟨_, rfl⟩
      rw [← hmi, ← hb] at hck hec hrgB hac hnA hea'
      have hck' := Lib.hid hck
      have hec' := Lib.hid hec
      have hac' := Lib.hid hac
      have hnA' := Lib.hid hnA
      have hok' := Lib.hid hok
      have hrgB' := Lib.hid hrgB
      clear hck hec hac hnA hok hrgB hbN hbZ hkl her hmi hb hau hg hs hev hrg
      go_wp2_with (first | (refine wpList_load_guard rfl 27 _ rfl bb (o + k * 20) rfl _ _ (hrgB'.out _ hA'.out.bel) Tryz.underlying27 rfl rfl ?_))
      go_at_call 30
      refine (hck'.out _ hA'.out.bel).mono ?_
      rintro e w1 ⟨rfl, hb1⟩
      have hA1' := Lib.hid (hA'.out.below hb1)
      clear hb1
      go_wp2_with (first | (refine wpList_load_guard rfl 27 _ rfl bb (o + k * 20) rfl _ _ (hrgB'.out _ hA1'.out.bel) Tryz.underlying27 rfl rfl ?_))
      go_at_call 26
      refine (hac'.out _ hA1'.out).mono ?_
      intro e w2 hE
      obtain ⟨n1, n2, n3, rfl⟩ := hnA'.out _ _ _ hA1'.out hE
      have n1' := Lib.hid n1
      have n2' := Lib.hid n2
      have n3' := Lib.hid n3
      have her1 : (er != er) = false := by simp
      clear n1 n2 n3 hE
      go_wp2_with (first | (refine wpList_load_guard rfl 27 _ rfl bb (o + k * 20) rfl _ _ (hrgB'.out _ n1'.out) Tryz.underlying27 rfl rfl ?_))
      go_at_call 31
      refine (hec'.out _ n1'.out).mono ?_
      rintro e w3 ⟨rfl, hb3⟩
      have p1 : Below w.heap.size w w3 := n1'.out.trans (hb3.mono n1'.out.size)
      have p2 := n2'.out.below hb3
      have p3 : OwnEv w w3 (w.heap.size + 2) u6 (okEvs (es.take k)) := n3'.out.block fun g _ hg => hb3.block g hg
      have p1' := Lib.hid p1
      have p2' := Lib.hid p2
      have p3' := Lib.hid p3
      clear p1 p2 p3 hb3
      by_cases he0 : er = 0
      · subst he0
        rw [if_pos rfl] at hok'
        obtain ⟨xs, hown, hcs⟩ := p3'.out
        have hone := hea'.out.one
        have hokl : (okEvs (es.take k)).length ≤ 1000 := Nat.le_trans (List.length_filter_le _ _) (by simp; omega)
        obtain ⟨n, hn⟩ : ∃ n, n = (okEvs (es.take k)).length := ⟨_, rfl⟩
        rw [← hn] at hown hokl
        obtain ⟨W4, hW4⟩ : ∃ W4, W4 = w3.alloc (.cells #[.int .i64 mi, v1, v2, v3, v4, v5, v6, v7, v8, v9, v10, v11, v12, v13, v14, v15, v16, g, sv, .int .i64 b] 27) := ⟨_, rfl⟩
        have hbel4 : Below w3.heap.size w3 W4 := by rw [hW4]; exact (Below.refl _ _).alloc (Nat.le_refl _) _
        have r0 : Hid (W4.ownsRow (w.heap.size + 2) 27 20 u6 n xs) := by show World.ownsRow _ _ _ _ _ _ _; rw [hW4]; exact hown.alloc _
        have r1 : Hid (∀ j u, [.int .i64 mi, v1, v2, v3, v4, v5, v6, v7, v8, v9, v10, v11, v12, v13, v14, v15, v16, g, sv, .int .i64 b][j]? = some u → W4.cell? ((⟨w3.heap.size, 0, none⟩ : Addr).add j) = some u) := fun j u hj => by
          rw [Addr.add_mid, hW4, cell_of_row _ w3.heap.size _ _ _ _ (heap_alloc_new w3 _)]
          simpa using hj
        have r2 : Hid (∀ u ∈ [.int .i64 mi, v1, v2, v3, v4, v5, v6, v7, v8, v9, v10, v11, v12, v13, v14, v15, v16, g, sv, .int .i64 b], u.oneCell' = true) := hone
        have r3 : Hid (n + 1 ≤ maxLen) := show n + 1 ≤ maxLen by unfold maxLen; omega
        have r4 : Hid ((n + 1) * 80 ≤ 140737488355328) := show (n + 1) * 80 ≤ 140737488355328 by omega
        have r5 : Hid (w.heap.size + 2 ≤ W4.heap.size) := by
          have h1 := p2'.out.lt.1
          have h2 := hbel4.size
          show _ ≤ _; omega
        have hbel4' := Lib.hid hbel4
        have hn' := Lib.hid hn
        have hown' := Lib.hid hown
        have hcs' := Lib.hid hcs
        have hW4' := Lib.hid hW4
        rw [hW4] at r0 r1 r5
        clear hbel4 hn hown hcs hone hW4
        go_wp2_with (first | (refine wpList_load_guard rfl 27 _ rfl bb (o + k * 20) rfl _ _ (hrgB'.out _ p1'.out) Tryz.underlying27 rfl rfl ?_) | (at_builtin; refine wpList_append_own _ rfl _ _ 22 rfl (w.heap.size + 2) 27 i0 (.agg #[.int .i64 0, .int .u8 0, .int .u8 0, .int .u8 0, .int .u8 0, .int .u8 0, .int .u8 0, .int .u8 0, .int .u8 0, .int .u8 0, .int .u8 0, .int .u8 0, .int .u8 0, .int .u8 0, .int .u8 0, .int .u8 0, .int .u8 0, .slice none 0 0, .slice none 0 0, .int .i64 0]) 20 80 Tryz.underlying22 hi'.out hz0'.out hz1'.out hz2'.out rfl (by decide) _ _ _ rfl r0.out ⟨w3.heap.size, 0, none⟩ 1 1 _ rfl rfl r1.out r2.out r3.out r4.out r5.out ?_; intro v' w4 ho hg4 _; have ho' := Lib.hid ho; have hg4' := Lib.hid hg4; clear ho hg4))
        refine ⟨⟨k + 1, by omega, by go_num, ?_⟩, by simp [intOf]; omega⟩
        have hg : W4.grownBy w4 u6.ownBlock := by rw [hW4'.out]; exact hg4'.out
        have hlt := hown'.out.lt
        have hb4 : Below w.heap.size w W4 := p1'.out.trans (hbel4'.out.mono p1'.out.size)
        have hs4 := p2'.out.below hbel4'.out
        refine ⟨hb4.grown hg hb4.size (fun j hj => by have := (hlt j hj).1; omega), hs4.block (hg.block _ hs4.lt.1 (fun hj => ?_)) (hg.block _ hs4.lt.2.1 (fun hj => ?_)), ?_⟩
        · have := (hlt _ hj.symm).1; omega
        · have := (hlt _ hj.symm).1; omega
        · rw [hok'.out]
          exact OwnEv.append (by rw [hown'.out.1, hn'.out]) (by rw [← hn'.out]; exact ho'.out) hcs'.out hea'.out
      · have he0' : (er == 0) = false := beq_eq_false_iff_ne.2 he0
        rw [if_neg he0] at hok'
        go_wp2_with fail
        exact ⟨⟨k + 1, by omega, by go_num, ⟨p1'.out, p2'.out, by rw [hok'.out]; exact p3'.out⟩⟩, by simp [intOf]; omega⟩
    · obtain rfl : k = es.length := by omega
      rw [List.take_length] at hA'
      go_wp2_with fail
      exact bodyPost_ret (v := .tuple #[.pointer (some ⟨w.heap.size + 1, 0, none⟩), u6, .bool true]) (by simp [results, Tryz.results10, go_sem]) rfl ⟨_, rfl, hA'.out⟩
end Go.Proofs.YtlemadbmlnjhpaaGreatDoor
namespace Go.Proofs.YtlemadbmlnjhpaaGreatDoor
open Go Go.RowKit Go.Proofs
open Go.Sort (grow)
set_option linter.unusedSimpArgs false
set_option linter.unusedVariables false

def auOne : List UInt8 := [0, 0, 0, 0, 0, 0, 0, 0, 0, 0, 0, 0, 0, 0, 0, 1]
def sA : ByteArray := ⟨#[97]⟩
def sB : ByteArray := ⟨#[98]⟩
def sX : ByteArray := ⟨#[120]⟩
def sY : ByteArray := ⟨#[121]⟩
theorem known_err : evErr 0 [sA, sB] [sX, sY] 300 = 0 := by decide +kernel
def knownL : List (Key × Cnt) := addL [] 0 auOne [sA, sB] [sX, sY] 300
theorem addL_ok {L : List (Key × Cnt)} {mi : Int} {au : List UInt8} {gs ss : List ByteArray} {b : Int} (h : evErr mi gs ss b = 0) : addL L mi au gs ss b = bumps L (keysOf mi au gs ss) b := by rw [addL, if_pos h]
theorem knownL_eq : knownL = bumps [] (keysOf 0 auOne [sA, sB] [sX, sY]) 300 := addL_ok known_err
theorem knownL_sum (p : Key → Bool) (h1 : (keysOf 0 auOne [sA, sB] [sX, sY]).countP p = 1) : sumBy p knownL = (1, 300) := by
  have h := sumBy_bumps p 300 (keysOf 0 auOne [sA, sB] [sX, sY]) []
  rw [← knownL_eq, h1] at h
  exact Prod.ext (by simpa [sumBy] using h.1) (by simpa [sumBy] using h.2)
theorem known_total : sumBy isWhole knownL = (1, 300) := knownL_sum _ (by decide +kernel)
theorem known_grp : sumBy (ofPred 1 sB 0 0) knownL = (1, 300) := knownL_sum _ (by decide +kernel)
theorem known_site : sumBy (ofPred 2 sX 0 0) knownL = (1, 300) := knownL_sum _ (by decide +kernel)
theorem known_auth : sumBy (ofPred 3 (auText auOne) 0 0) knownL = (1, 300) := knownL_sum _ (by decide +kernel)
theorem known_size : (addZ noSizes 0 [sA, sB] [sX, sY] 300) = [0, 0, 0, 0, 0, 0, 0, 0, 0, 1, 0, 0, 0, 0, 0, 0, 0, 0] := by decide +kernel
theorem below_setCellsK {B b : Nat} (hb : B ≤ b) : ∀ (vs : List Value) (o : Nat) {a w : World}, Below B a w → Below B a (w.setCells b o vs)
  | [], _, _, _, h => h
  | v :: r, o, a, w, h => by
    rw [World.setCells]
    exact below_setCellsK hb r (o + 1) (h.setCell (by simpa using hb) _)
theorem results_cell_load {P : Program} {fn : Func} {p : Tmp} {ty : TypeId} (h : fn.results = #[.cell p ty]) (tmps : Array Value) (w : World) (g : Nat) (v : Value)
    (hp : tmps.getD p undef = .pointer (some ⟨g, 0, none⟩)) (hl : (loadVar ty ⟨g, 0, none⟩).run P w = .ok v w) : (results fn tmps).run P w = .ok v w := by
  have hp' : tmps[p]?.getD undef = .pointer (some ⟨g, 0, none⟩) := by simpa using hp
  simp [results, h, hp', asAddr, hl]
theorem Tryz.sizeArr : (Tryz.prog.info? 41).map (·.size) = some 18 := by kernel_rfl

set_option maxRecDepth 100000 in
set_option maxHeartbeats 3200000 in
theorem sizes_any (sb m : Nat) (L : List (Key × Cnt)) (zs : List Int) (w : World) (h : StatsAt w sb m L zs) :
    Calls Tryz.prog 16 #[.pointer (some ⟨sb, 0, none⟩)] w fun e w' => e = .returned (.agg (zs.map (Value.int .i64)).toArray) ∧ Below w.heap.size w w' := by
  obtain ⟨W, hW⟩ : ∃ W, W = w.alloc (.cells #[.int .i64 0, .int .i64 0, .int .i64 0, .int .i64 0, .int .i64 0, .int .i64 0, .int .i64 0, .int .i64 0, .int .i64 0, .int .i64 0, .int .i64 0, .int .i64 0, .int .i64 0, .int .i64 0, .int .i64 0, .int .i64 0, .int .i64 0, .int .i64 0] 41) := ⟨_, rfl⟩
  have hb : Below w.heap.size w W := by rw [hW]; exact (Below.refl _ w).alloc (Nat.le_refl _) _
  have hs := h.below hb
  have hlen : (zs.map (Value.int .i64)).length = 18 := by simpa using hs.2.1
  have hrow : W.rangeAt sb 1 (zs.map (Value.int .i64)) := fun j v hj => by
    rw [cell_of_row _ _ _ _ _ _ hs.1, List.getElem?_toArray, Nat.add_comm, List.getElem?_cons_succ]; exact hj
  have hth : W.there w.heap.size 0 (zs.map (Value.int .i64)).toArray.size := by
    intro j hj
    rw [List.size_toArray, hlen] at hj
    have hnew := heap_alloc_new w (.cells #[.int .i64 0, .int .i64 0, .int .i64 0, .int .i64 0, .int .i64 0, .int .i64 0, .int .i64 0, .int .i64 0, .int .i64 0, .int .i64 0, .int .i64 0, .int .i64 0, .int .i64 0, .int .i64 0, .int .i64 0, .int .i64 0, .int .i64 0, .int .i64 0] 41)
    rw [← hW] at hnew
    refine ⟨?_, frozen_of_row _ _ _ _ _ hnew⟩
    rw [cell_of_row _ _ _ _ _ _ hnew, Nat.zero_add, Array.getElem?_eq_getElem (by simpa using hj)]; rfl
  have hone : (zs.map (Value.int .i64)).toArray.all (·.oneCell') = true := all_oneCell_toArray fun v hv => by
    obtain ⟨x, _, rfl⟩ := List.mem_map.1 hv; rfl
  have hs1 : (Tryz.prog.info? 41).map (·.size) = some (zs.map (Value.int .i64)).length := by rw [hlen]; exact Tryz.sizeArr
  have hs2 : (Tryz.prog.info? 41).map (·.size) = some (zs.map (Value.int .i64)).toArray.size := by rw [List.size_toArray, hlen]; exact Tryz.sizeArr
  have hres : (loadVar 41 ⟨w.heap.size, 0, none⟩).run Tryz.prog (W.setCells w.heap.size 0 (zs.map (Value.int .i64)).toArray.toList) = .ok (.agg (zs.map (Value.int .i64)).toArray) (W.setCells w.heap.size 0 (zs.map (Value.int .i64)).toArray.toList) :=
    run_loadVar_mid _ _ _ _ _ _ (by rw [List.toList_toArray]; exact World.rangeAt_setCells_same W w.heap.size 0 _ (by simpa using hth)) Tryz.underlying41 rfl hs1
  have hbf : Below w.heap.size w (W.setCells w.heap.size 0 (zs.map (Value.int .i64)).toArray.toList) := below_setCellsK (Nat.le_refl _) _ _ hb
  clear h hs hlen hb
  have hrow' := Lib.hid hrow
  have hth' := Lib.hid hth
  have hone' := Lib.hid hone
  have hs1' := Lib.hid hs1
  have hs2' := Lib.hid hs2
  have hres' := Lib.hid hres
  have hbf' := Lib.hid hbf
  clear hrow hth hone hs1 hs2 hres hbf
  obtain ⟨cs, hcs⟩ : ∃ cs, cs = zs.map (Value.int .i64) := ⟨_, rfl⟩
  rw [← hcs] at hrow' hth' hone' hs1' hs2' hres' hbf'
  rw [← hcs]
  clear hcs
  rw [hW] at hrow' hth' hres' hbf'
  clear hW
  go_enter Tryz.func16, Tryz.ntmps16
  go_wp2_with (first | (refine wpList_load_mid rfl 41 _ rfl sb 1 rfl _ _ hrow'.out Tryz.underlying41 rfl hs1'.out ?_) | (refine wpList_store_mid rfl 41 _ _ rfl w.heap.size 0 _ rfl rfl hth'.out hs2'.out hone'.out ?_))
  exact bodyPost_ret (v := .agg cs.toArray) (results_cell_load Tryz.results16 _ _ _ _ rfl hres'.out) rfl ⟨rfl, hbf'.out⟩
end Go.Proofs.YtlemadbmlnjhpaaGreatDoor
