/- The arguments opened. -/
/- What the rows with five tables share: from the row's condition to the table of powers of ten; a world for the witness. -/
import Derived.Test.YtlemadbmlnjhpaaGreatDoorG5
import Derived.OpenShut
import Derived.Deep.Slices
import Derived.Deep.Strs
import Derived.Test.YtlemadbmlnjhpaaGreatDoorH5
import Derived.Test.YtlemadbmlnjhpaaGreatDoorCards
import Derived.Test.YtlemadbmlnjhpaaGreatDoorTie
import Derived.WalkKit
import Derived.ProofKit
import Derived.Carry
import Derived.Deep.DeepHandedRow
import Derived.Lib.LaidTab
import Derived.Lib.LaidU8
namespace Go.Proofs.YtlemadbmlnjhpaaGreatDoor
open Go Go.RowKit Go.Proofs Go.ChangeShapes Go.WideShapes Go.Deep
set_option linter.unusedSimpArgs false
set_option linter.unusedVariables false
variable {H : Type} {enc : TypeId × Value → H} {W : World}

instance : Inhabited Ev := ⟨⟨0, [], [], [], 0⟩⟩
theorem bytes_of : ∀ l : List Value, (∀ c ∈ l, ∃ n : Int, c = .int .u8 n ∧ 0 ≤ n ∧ n ≤ 255) → ∃ au, l = byteVals au
  | [], _ => ⟨[], rfl⟩
  | c :: r, h => by
    obtain ⟨au, rfl⟩ := bytes_of r (fun x hx => h x (by simp [hx]))
    obtain ⟨n, rfl, h0, h1⟩ := h c (by simp)
    refine ⟨UInt8.ofNat n.toNat :: au, ?_⟩
    show _ = Value.int .u8 ((UInt8.ofNat n.toNat).toNat : Int) :: byteVals au
    rw [UInt8.toNat_ofNat_of_lt' (by show n.toNat < 256; omega), Int.toNat_of_nonneg h0]
theorem list20 {α : Type} : ∀ {l : List α}, l.length = 20 → ∃ a0 a1 a2 a3 a4 a5 a6 a7 a8 a9 a10 a11 a12 a13 a14 a15 a16 a17 a18 a19, l = [a0, a1, a2, a3, a4, a5, a6, a7, a8, a9, a10, a11, a12, a13, a14, a15, a16, a17, a18, a19]
  | [a0, a1, a2, a3, a4, a5, a6, a7, a8, a9, a10, a11, a12, a13, a14, a15, a16, a17, a18, a19], _ => ⟨a0, a1, a2, a3, a4, a5, a6, a7, a8, a9, a10, a11, a12, a13, a14, a15, a16, a17, a18, a19, rfl⟩
theorem Tryz.cells1 : Tryz.prog.cellsOf 3 = 1 := by kernel_rfl
theorem Tryz.cells1s : Tryz.prog.cellsOf 9 = 1 := by kernel_rfl
theorem Tryz.cells1u : Tryz.prog.cellsOf 5 = 1 := by kernel_rfl
theorem Tryz.cells1l : Tryz.prog.cellsOf 25 = 1 := by kernel_rfl
theorem Tryz.cells16 : Tryz.prog.cellsOf 24 = 16 := by kernel_rfl
theorem Tryz.cells20 : Tryz.prog.cellsOf 27 = 20 := by kernel_rfl

theorem strs_open {n : Nat} {c : Value} {y : DataW H × List MemPlace} (h : DataW.trod enc Tryz.prog W 0 (fun _ => true) true n 25 [c] = some y) : ∃ gs, SliceStr W c gs := by
  rcases open_strs Tryz.underlying25 Tryz.underlying9 Tryz.cells1s h with ⟨h0, _⟩ | ⟨a, len, cap, m, Sx, hcs, hb, hl, hm, hmm, _, hx⟩
  · simp only [List.cons.injEq, and_true] at h0
    exact ⟨[], .inl ⟨_, _, h0, rfl⟩⟩
  · simp only [List.cons.injEq, and_true] at hcs
    subst hcs
    simp only [if_true] at hmm
    subst hmm
    rcases Nat.eq_zero_or_pos len with rfl | hpos
    · exact ⟨[], .inl ⟨_, _, rfl, rfl⟩⟩
    · obtain ⟨b, o, spot⟩ := a
      have h1 := (hx 0 (by omega)).1
      have hspot : spot = none := by simpa [Addr.add] using World.cell?_spot h1
      subst hspot
      have hlt : b < W.heap.size := by
        rw [Addr.add_mid] at h1
        exact World.block_lt_of_cell? W _ h1
      refine ⟨(List.range len).map Sx, .inr ⟨b, o, m, by simp, by simpa using hl, ⟨by unfold maxLen at hm; omega, by unfold maxLen at hm; simp; omega⟩, hlt, fun j hj => ?_, fun z hz => ?_⟩⟩
      · have hj' : j < len := by simpa using hj
        have h2 := (hx j (by omega)).1
        rw [Addr.add_mid] at h2
        rw [h2]; simp [List.getD_eq_getElem?_getD, hj']
      · obtain ⟨j, hj, rfl⟩ := List.mem_map.1 hz
        have := (hx j (by have := List.mem_range.1 hj; omega)).2
        unfold maxLen at this; omega

theorem ev_open {n : Nat} {cs : List Value} {y : DataW H × List MemPlace} (h : DataW.trod enc Tryz.prog W 0 (fun _ => true) true n 27 cs = some y) : ∃ e : Ev, EvAt W e cs ∧ e.au.length = 16 := by
  obtain ⟨xs, n', _, _, hlen, hxl, hf⟩ := DataW.trod_struct Tryz.underlying27 h
  rw [Tryz.cells20] at hlen
  obtain ⟨c0, c1, c2, c3, c4, c5, c6, c7, c8, c9, c10, c11, c12, c13, c14, c15, c16, c17, c18, c19, rfl⟩ := list20 hlen
  have hx : ∀ i, i < 5 → ∃ z, xs[i]? = some z := fun i hi => ⟨_, List.getElem?_eq_getElem (by rw [hxl]; exact hi)⟩
  obtain ⟨z0, hz0⟩ := hx 0 (by omega)
  obtain ⟨z1, hz1⟩ := hx 1 (by omega)
  obtain ⟨z2, hz2⟩ := hx 2 (by omega)
  obtain ⟨z3, hz3⟩ := hx 3 (by omega)
  obtain ⟨z4, hz4⟩ := hx 4 (by omega)
  have h0 : DataW.trod enc Tryz.prog W 0 (fun _ => true) true n' 3 (List.take (Tryz.prog.cellsOf 3) (List.drop 0 [c0, c1, c2, c3, c4, c5, c6, c7, c8, c9, c10, c11, c12, c13, c14, c15, c16, c17, c18, c19])) = some z0 := (hf 0 _ rfl).trans hz0
  have h1 : DataW.trod enc Tryz.prog W 0 (fun _ => true) true n' 24 (List.take (Tryz.prog.cellsOf 24) (List.drop 1 [c0, c1, c2, c3, c4, c5, c6, c7, c8, c9, c10, c11, c12, c13, c14, c15, c16, c17, c18, c19])) = some z1 := (hf 1 _ rfl).trans hz1
  have h2 : DataW.trod enc Tryz.prog W 0 (fun _ => true) true n' 25 (List.take (Tryz.prog.cellsOf 25) (List.drop 17 [c0, c1, c2, c3, c4, c5, c6, c7, c8, c9, c10, c11, c12, c13, c14, c15, c16, c17, c18, c19])) = some z2 := (hf 2 _ rfl).trans hz2
  have h3 : DataW.trod enc Tryz.prog W 0 (fun _ => true) true n' 25 (List.take (Tryz.prog.cellsOf 25) (List.drop 18 [c0, c1, c2, c3, c4, c5, c6, c7, c8, c9, c10, c11, c12, c13, c14, c15, c16, c17, c18, c19])) = some z3 := (hf 3 _ rfl).trans hz3
  have h4 : DataW.trod enc Tryz.prog W 0 (fun _ => true) true n' 3 (List.take (Tryz.prog.cellsOf 3) (List.drop 19 [c0, c1, c2, c3, c4, c5, c6, c7, c8, c9, c10, c11, c12, c13, c14, c15, c16, c17, c18, c19])) = some z4 := (hf 4 _ rfl).trans hz4
  rw [Tryz.cells1] at h0 h4
  rw [Tryz.cells16] at h1
  rw [Tryz.cells1l] at h2 h3
  have h0' : DataW.trod enc Tryz.prog W 0 (fun _ => true) true n' 3 [c0] = some z0 := h0
  have h1' : DataW.trod enc Tryz.prog W 0 (fun _ => true) true n' 24 [c1, c2, c3, c4, c5, c6, c7, c8, c9, c10, c11, c12, c13, c14, c15, c16] = some z1 := h1
  have h2' : DataW.trod enc Tryz.prog W 0 (fun _ => true) true n' 25 [c17] = some z2 := h2
  have h3' : DataW.trod enc Tryz.prog W 0 (fun _ => true) true n' 25 [c18] = some z3 := h3
  have h4' : DataW.trod enc Tryz.prog W 0 (fun _ => true) true n' 3 [c19] = some z4 := h4
  obtain ⟨mi, e0, _, w0⟩ := DataW.trod_int Tryz.underlying3 h0'
  obtain ⟨b, e4, _, w4⟩ := DataW.trod_int Tryz.underlying3 h4'
  obtain ⟨gs, hg⟩ := strs_open h2'
  obtain ⟨ss, hs⟩ := strs_open h3'
  obtain ⟨ys, m, _, _, _, hyl, hy⟩ := DataW.trod_array Tryz.underlying24 h1'
  have hby : ∀ c ∈ [c1, c2, c3, c4, c5, c6, c7, c8, c9, c10, c11, c12, c13, c14, c15, c16], ∃ n : Int, c = .int .u8 n ∧ 0 ≤ n ∧ n ≤ 255 := fun c hc => by
    obtain ⟨i, hi, rfl⟩ := List.getElem_of_mem hc
    have hi' : i < 16 := hi
    have h5 := (hy i hi').trans (List.getElem?_eq_getElem (by rw [hyl]; exact hi'))
    rw [Tryz.cells1u, Nat.mul_one, List.drop_eq_getElem_cons hi, List.take_succ_cons, List.take_zero] at h5
    obtain ⟨k, hk, _, wk⟩ := DataW.trod_int Tryz.underlying5 h5
    simp only [List.cons.injEq, and_true] at hk
    exact ⟨k, hk, bounds_u8 wk⟩
  obtain ⟨au, hau⟩ := bytes_of _ hby
  simp only [List.cons.injEq, and_true] at e0 e4
  subst e0 e4
  refine ⟨⟨mi, au, gs, ss, b⟩, ⟨c1, c2, c3, c4, c5, c6, c7, c8, c9, c10, c11, c12, c13, c14, c15, c16, c17, c18, rfl, hau, hg, hs, w0, w4⟩, ?_⟩
  have := congrArg List.length hau
  simpa [byteVals] using this.symm
theorem evs_open {n : Nat} {a : Option Addr} {len cap : Nat} {y : DataW H × List MemPlace} (h : DataW.trod enc Tryz.prog W 0 (fun _ => true) true n 22 (Value.slice a len cap).cells.toList = some y) :
    ∃ es, SliceEv W (.slice a len cap) es ∧ ∀ e ∈ es, e.au.length = 16 := by
  have h' : DataW.trod enc Tryz.prog W 0 (fun _ => true) true n 22 [Value.slice a len cap] = some y := h
  rcases open_slice Tryz.underlying22 h' with ⟨h0, _⟩ | ⟨ad, len', cap', m, k, D, Pl, hcs, hb, hl, hm, hmm, _, hx⟩
  · simp only [List.cons.injEq, and_true] at h0
    exact ⟨[], .inl ⟨_, _, h0, rfl⟩, fun e he => by simp at he⟩
  · simp only [List.cons.injEq, and_true] at hcs
    rw [hcs]
    simp only [if_true] at hmm
    subst hmm
    rcases Nat.eq_zero_or_pos len' with rfl | hpos
    · exact ⟨[], .inl ⟨_, _, rfl, rfl⟩, fun e he => by simp at he⟩
    · have hev : ∀ i, i < len' → ∃ e : Ev, ∃ cs, W.cells? 0 (ad.add (i * 20)) 20 = some cs ∧ EvAt W e cs ∧ e.au.length = 16 := fun i hi => by
        obtain ⟨cs, h1, h2⟩ := hx i (by omega)
        rw [Tryz.cells20] at h1
        obtain ⟨e, h3, h4⟩ := ev_open h2
        exact ⟨e, cs, h1, h3, h4⟩
      obtain ⟨E, hE⟩ := choose_lt hev
      obtain ⟨b, o, spot⟩ := ad
      obtain ⟨cs0, h1, h2, _⟩ := hE 0 hpos
      have hl0 := h2.len
      obtain ⟨_, _, hat⟩ := World.cells?_some h1
      have hc0 : W.cell? ((Addr.mk b o spot).add (0 * 20) |>.add 0) = some (cs0[0]'(by omega)) := (hat 0 (by omega)).trans (List.getElem?_eq_getElem (by omega))
      have hspot : spot = none := by simpa [Addr.add] using World.cell?_spot hc0
      subst hspot
      have hlt : b < W.heap.size := by
        rw [Addr.add_mid, Addr.add_mid] at hc0
        exact World.block_lt_of_cell? W _ hc0
      refine ⟨(List.range len').map E, .inr ⟨b, o, m, by simp, ⟨by unfold maxLen at hm; omega, by unfold maxLen at hm; simp; omega⟩, hlt, fun i e hi => ?_⟩, fun e he => ?_⟩
      · have hi' : i < len' := by have := (List.getElem?_eq_some_iff.1 hi).1; simpa using this
        obtain ⟨cs, h3, h4, _⟩ := hE i hi'
        obtain rfl : E i = e := by simpa [hi'] using hi
        refine ⟨cs, fun j v hj => ?_, h4⟩
        obtain ⟨_, hcl, hat⟩ := World.cells?_some h3
        have := hat j (by rw [← hcl]; exact (List.getElem?_eq_some_iff.1 hj).1)
        rw [Addr.add_mid, Addr.add_mid] at this
        rw [this]; exact hj
      · obtain ⟨i, hi, rfl⟩ := List.mem_map.1 he
        obtain ⟨cs, _, _, h5⟩ := hE i (List.mem_range.1 hi)
        exact h5
theorem evs_nil {n : Nat} {a : Option Addr} {len cap : Nat} {y : DataW H × List MemPlace} (h : DataW.trod enc Tryz.prog W 0 (fun _ => true) true n 22 (Value.slice a len cap).cells.toList = some y) :
    ∀ n c, Value.slice a len cap = .slice none n c → Value.slice a len cap = .slice none 0 0 := by
  have h' : DataW.trod enc Tryz.prog W 0 (fun _ => true) true n 22 [Value.slice a len cap] = some y := h
  intro n c e
  rcases open_slice Tryz.underlying22 h' with ⟨h0, _⟩ | ⟨ad, len', cap', m, k, D, Pl, hcs, _⟩
  · simpa using h0
  · simp only [List.cons.injEq, and_true] at hcs
    rw [hcs] at e; cases e
end Go.Proofs.YtlemadbmlnjhpaaGreatDoor
namespace Go.Proofs.YtlemadbmlnjhpaaGreatDoor.five
open Go Go.ChangeShapes Go.WideShapes Go.ChangeAt Go.RowKit Go.Proofs Go.Deep
open Go.ChangeMaps (open_string shut_string)
set_option linter.unusedSimpArgs false
set_option linter.unusedVariables false

theorem own : ownKnob Tryz.prog.godebug = none := by kernel_rfl
theorem laidOut : laidOutB Tryz.prog = true := by kernel_rfl

theorem post_of_below {H : Type} {enc : TypeId × Value → H} {P : Program} {f : Func} {s : ChangeSpec} {apart fresh handsOn again : Bool} {W W' : World} {args : Array Value} {v : Value} {ds gs : List (DataW H)} {before pa pv : List MemPlace}
    (hW : DataW.Whole enc P f.params.toList s.vars apart W args.toList ds gs before)
    (hres : ∀ (b : Nat) (sp : Nat → Bool) (hd : Bool), DataW.TrodAll enc P W' b sp hd f.resultTypes.toList (v.resultList f.resultTypes.size) (s.fn H (ds ++ gs)).results [])
    (hargs : ∀ sp : Nat → Bool, (∀ p ∈ before, sp p.block = true) → DataW.TrodAll enc P W' 0 sp true f.params.toList args.toList (s.fn H (ds ++ gs)).args pa)
    (hvars : ∀ sp : Nat → Bool, (∀ p ∈ before, sp p.block = true) → DataW.TrodVars enc P W' sp s.vars (s.fn H (ds ++ gs)).vars pv)
    (hps : before = pa ++ pv) (hb : Below W.heap.size W W')
    (hok : ∀ (j : Nat) (t : TypeId) (r : Value), f.resultTypes[j]? = some t → (v.resultList f.resultTypes.size)[j]? = some r → Value.okWide P W' .any 0 t r) :
    s.post enc P f apart fresh handsOn again W args v W' := by
  have hlt := hW.lt
  have hold : ∀ p ∈ before, (fun b => decide (b < W.heap.size)) p.block = true := fun p hp => by simpa using hlt p hp
  refine ⟨ds, gs, before, [], pa, pv, hW, hres _ _ _, hargs _ hold, hvars _ hold, World.keptBut_mono (fun p hp => ⟨hp, ?_⟩) (hb.frame (· ∈ before)), fun _ => ?_⟩
  · rw [hps, List.mem_append] at hp
    exact Or.inr hp
  · obtain ⟨_, _, _, _, _, hz, hn⟩ := hW
    refine ⟨hok, _, _, ([] ++ pa) ++ pv, ⟨[] ++ pa, pv, trodAll_append (hargs _ (fun _ _ => rfl)) (hres _ _ _), hvars _ (fun _ _ => rfl), rfl, ?_, ?_⟩, ?_⟩
    · intro b off hp
      have hp' : MemPlace.cell b off ∈ before := by rw [hps]; simpa using hp
      rw [hb.frozen (p := ⟨b, off, none⟩) (hlt _ hp')]
      exact hz b off hp'
    · intro ha
      have := hn ha
      rw [hps] at this
      simpa using this
    · intro p hp _
      rw [hps]
      simpa using hp

theorem met_tail {P : Program} {x : String × DataW Unit} {r : List (String × DataW Unit)} {w : World} (h : laidMet P (x :: r) w) : laidMet P r w := by
  obtain ⟨ps, hv, hnd, hrows⟩ := h
  obtain ⟨n, d⟩ := x
  obtain ⟨g, t, cs, fuel, p, q, _, _, _, _, hq, rfl⟩ := hv
  exact ⟨q, hq, List.Nodup.sublist (List.sublist_append_right _ _) hnd, fun b off hm => hrows b off (List.mem_append_right _ hm)⟩
theorem tab_of {a b : String × DataW Unit} {r : List (String × DataW Unit)} {W : World} (h : laidMet Tryz.prog (a :: b :: ("internal/strconv.uint64pow10", Rows.laid_internal_strconv_uint64pow10) :: r) W) : Tab W :=
  Lib.tabIs_of_head (g := 1) (t := 173) (e := 125) (n := 20) (by kernel_rfl) (by kernel_rfl) Tryz.underlying173 Tryz.underlying125 (by kernel_rfl) (by kernel_rfl) (met_tail (met_tail h))

def flat : DataW Unit → List Value
  | .agg xs => xs.map fun | .lit (.int k n) => .int k n | _ => undef
  | _ => []
/-- A WORLD FOR THE WITNESS: the settled one, the five tables holding what the program's text lays. -/
noncomputable def laidWorld (os : Os) : World :=
  let w0 := World.holding Tryz.prog os ⟨#[], #[], []⟩
  let put (h : Array Obj) (g : Nat) (cs : Array Value) : Array Obj := h.modify g fun
    | .cells _ t frozen => .cells cs t frozen
    | o => o
  let h1 := put w0.heap 4 (Lib.firstTab.map fun z => Value.int .u8 z).toArray
  let h2 := put h1 5 ((List.range 16).flatMap fun i => [Value.int .u8 (Lib.accLo i), Value.int .u8 (Lib.accHi i)]).toArray
  let h3 := put h2 2 (flat Rows.laid_math_bits_deBruijn32tab).toArray
  let h4 := put h3 3 (flat Rows.laid_math_bits_deBruijn64tab).toArray
  let h5 := put h4 1 (flat Rows.laid_internal_strconv_uint64pow10).toArray
  { w0 with heap := h5 }
end Go.Proofs.YtlemadbmlnjhpaaGreatDoor.five
