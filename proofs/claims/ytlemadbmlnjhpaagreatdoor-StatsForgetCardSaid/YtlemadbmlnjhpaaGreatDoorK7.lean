/- The contracts of the texts of authors (control.AuthorText and the reference's Author). -/
import Derived.Test.YtlemadbmlnjhpaaGreatDoorK6
import Derived.Deep.RegionLaw
import Derived.Lib.ConvBytes
import Derived.Laws.BytesString
import Derived.Deep.MidRow
namespace Go.Proofs.YtlemadbmlnjhpaaGreatDoor
open Go Go.RowKit Go.Proofs
set_option linter.unusedSimpArgs false
set_option linter.unusedVariables false

theorem step_append_own {P : Program} {w : World} {ops : Array Oper} {E : Prop} {o : Oper} {a : Act} {K : Act → World → Prop} {Q : Exit → Act → World → Prop} (hgd : o.guard = none) (s x : Operand) (t : TypeId)
    (ho : o.op = .call { callee := .builtin .append, args := #[s, x], argTypes := #[t, t] })
    (base : Nat) (e : TypeId) (i : TypeInfo) (z : Value) (size bytes : Nat) (ht : P.underlying t = some (.slice e)) (hi : P.info? e = some i) (hz : i.zero = some z)
    (hsize : i.size = size) (hby : i.bytes = bytes) (hzs : z.cells.size = size) (hsz : 0 < size)
    (v : Value) (n : Nat) (xs : List Value) (hs : a.eval s = v) (hown : w.ownsRow base e size v n xs)
    (ad : Addr) (m c : Nat) (news : List Value) (hx : a.eval x = .slice (some ad) m c) (hl : news.length = m * size) (hnews : ∀ j u, news[j]? = some u → w.cell? (ad.add j) = some u) (h1 : ∀ u ∈ news, u.oneCell' = true)
    (h63 : n + m ≤ maxLen) (hbytes : (n + m) * bytes ≤ 140737488355328) (hbase : base ≤ w.heap.size)
    (h : ∀ v' w', w'.ownsRow base e size v' (n + m) (xs ++ news) → w.grownBy w' v.ownBlock → (v' = .slice none 0 0 ↔ v = .slice none 0 0 ∧ m = 0) → K (a.put o.dst v') w') :
    if Region.wanted o (yielded ops a.tmps) = true then Oper.wp P o a w K Q else E := by
  have hw : Region.wanted o (yielded ops a.tmps) = true := by simp [Region.wanted, hgd]
  rw [if_pos hw]
  exact wp_append_own w s x t ho base e i z size bytes ht hi hz hsize hby hzs hsz v n xs hs hown ad m c news hx hl hnews h1 h63 hbytes hbase h

def hexd (n : Nat) : UInt8 := UInt8.ofNat (if n < 10 then 48 + n else 87 + n)
def hexL (l : List UInt8) : List UInt8 := l.flatMap fun c => [hexd (c.toNat / 16), hexd (c.toNat % 16)]
/-- the text of an author -/
def auText (au : List UInt8) : ByteArray := mkS (hexL au)
theorem hexL_snoc (l : List UInt8) (c : UInt8) : hexL (l ++ [c]) = hexL l ++ [hexd (c.toNat / 16), hexd (c.toNat % 16)] := by simp [hexL]
theorem hexL_length (l : List UInt8) : (hexL l).length = 2 * l.length := by
  induction l with
  | nil => rfl
  | cons a l ih => simp only [hexL, List.flatMap_cons, List.length_append, List.length_cons, List.length_nil] at *; omega

def byteVals (l : List UInt8) : List Value := l.map fun b => .int .u8 (b.toNat : Int)
theorem hexL_next {au : List UInt8} {k : Nat} {c : UInt8} (h : au[k]? = some c) : byteVals (hexL (au.take (k + 1))) = byteVals (hexL (au.take k)) ++ [.int .u8 ((hexd (c.toNat / 16)).toNat : Int), .int .u8 ((hexd (c.toNat % 16)).toNat : Int)] := by
  have hk := (List.getElem?_eq_some_iff.1 h)
  obtain ⟨hk1, hk2⟩ := hk
  rw [List.take_succ_eq_append_getElem hk1, hexL_snoc, hk2]
  simp [byteVals]
theorem pushes : ∀ (l : List UInt8) (r : ByteArray), ((l.map fun b => (b.toNat : Int)).foldl (fun r n => r.push (UInt8.ofNat n.toNat)) r).data.toList = r.data.toList ++ l
  | [], r => by simp
  | b :: l, r => by
    simp only [List.map_cons, List.foldl_cons]
    rw [pushes l]
    show (r.data.push _).toList ++ l = _
    simp
theorem string_own {w : World} {base : Nat} {v : Value} {n : Nat} {l : List UInt8} (h : w.ownsRow base 5 1 v n (byteVals l)) (h0 : 0 < n) :
    (convert 75 9 v).run Tryz.prog w = .ok (.string (mkS l)) w := by
  obtain ⟨g, cap, rfl, hg1, hg2⟩ := h.form h0
  have hl : l.length = n := by have := h.1; simpa [byteVals] using this
  rw [run_convert_bytes_string w 75 9 5 _ _ _ Tryz.underlying75 Tryz.underlying5 Tryz.underlying9]
  have hc := run_loadCells_list (P := Tryz.prog) (w := w) ⟨g, 0, none⟩ (byteVals l) (h.cells rfl)
  have e : (byteVals l).length = n := by simpa [byteVals] using hl
  rw [e] at hc
  have := run_bytesToString (P := Tryz.prog) w ⟨g, 0, none⟩ n cap (l.map fun b => (b.toNat : Int)) (by rw [hc]; simp [byteVals, Function.comp_def])
  rw [this]
  congr 2
  rw [← mkS_data (List.foldl _ _ _), pushes]
  rfl
theorem Tryz.infoU8 : (Tryz.prog.info? 5).map (fun i => (i.zero, i.size, i.bytes)) = some (some (.int .u8 0), 1, 1) := by kernel_rfl

theorem Tryz.idxAu0 (v0 v1 v2 v3 v4 v5 v6 v7 v8 v9 v10 v11 v12 v13 v14 v15 : Value) (w : World) : (Instr.index 24 (.agg #[v0, v1, v2, v3, v4, v5, v6, v7, v8, v9, v10, v11, v12, v13, v14, v15]) (.int .i64 ((0 : Nat) : Int))).run Tryz.prog w = .ok v0 w := by kernel_rfl
theorem Tryz.idxAu1 (v0 v1 v2 v3 v4 v5 v6 v7 v8 v9 v10 v11 v12 v13 v14 v15 : Value) (w : World) : (Instr.index 24 (.agg #[v0, v1, v2, v3, v4, v5, v6, v7, v8, v9, v10, v11, v12, v13, v14, v15]) (.int .i64 ((1 : Nat) : Int))).run Tryz.prog w = .ok v1 w := by kernel_rfl
theorem Tryz.idxAu2 (v0 v1 v2 v3 v4 v5 v6 v7 v8 v9 v10 v11 v12 v13 v14 v15 : Value) (w : World) : (Instr.index 24 (.agg #[v0, v1, v2, v3, v4, v5, v6, v7, v8, v9, v10, v11, v12, v13, v14, v15]) (.int .i64 ((2 : Nat) : Int))).run Tryz.prog w = .ok v2 w := by kernel_rfl
theorem Tryz.idxAu3 (v0 v1 v2 v3 v4 v5 v6 v7 v8 v9 v10 v11 v12 v13 v14 v15 : Value) (w : World) : (Instr.index 24 (.agg #[v0, v1, v2, v3, v4, v5, v6, v7, v8, v9, v10, v11, v12, v13, v14, v15]) (.int .i64 ((3 : Nat) : Int))).run Tryz.prog w = .ok v3 w := by kernel_rfl
theorem Tryz.idxAu4 (v0 v1 v2 v3 v4 v5 v6 v7 v8 v9 v10 v11 v12 v13 v14 v15 : Value) (w : World) : (Instr.index 24 (.agg #[v0, v1, v2, v3, v4, v5, v6, v7, v8, v9, v10, v11, v12, v13, v14, v15]) (.int .i64 ((4 : Nat) : Int))).run Tryz.prog w = .ok v4 w := by kernel_rfl
theorem Tryz.idxAu5 (v0 v1 v2 v3 v4 v5 v6 v7 v8 v9 v10 v11 v12 v13 v14 v15 : Value) (w : World) : (Instr.index 24 (.agg #[v0, v1, v2, v3, v4, v5, v6, v7, v8, v9, v10, v11, v12, v13, v14, v15]) (.int .i64 ((5 : Nat) : Int))).run Tryz.prog w = .ok v5 w := by kernel_rfl
theorem Tryz.idxAu6 (v0 v1 v2 v3 v4 v5 v6 v7 v8 v9 v10 v11 v12 v13 v14 v15 : Value) (w : World) : (Instr.index 24 (.agg #[v0, v1, v2, v3, v4, v5, v6, v7, v8, v9, v10, v11, v12, v13, v14, v15]) (.int .i64 ((6 : Nat) : Int))).run Tryz.prog w = .ok v6 w := by kernel_rfl
theorem Tryz.idxAu7 (v0 v1 v2 v3 v4 v5 v6 v7 v8 v9 v10 v11 v12 v13 v14 v15 : Value) (w : World) : (Instr.index 24 (.agg #[v0, v1, v2, v3, v4, v5, v6, v7, v8, v9, v10, v11, v12, v13, v14, v15]) (.int .i64 ((7 : Nat) : Int))).run Tryz.prog w = .ok v7 w := by kernel_rfl
theorem Tryz.idxAu8 (v0 v1 v2 v3 v4 v5 v6 v7 v8 v9 v10 v11 v12 v13 v14 v15 : Value) (w : World) : (Instr.index 24 (.agg #[v0, v1, v2, v3, v4, v5, v6, v7, v8, v9, v10, v11, v12, v13, v14, v15]) (.int .i64 ((8 : Nat) : Int))).run Tryz.prog w = .ok v8 w := by kernel_rfl
theorem Tryz.idxAu9 (v0 v1 v2 v3 v4 v5 v6 v7 v8 v9 v10 v11 v12 v13 v14 v15 : Value) (w : World) : (Instr.index 24 (.agg #[v0, v1, v2, v3, v4, v5, v6, v7, v8, v9, v10, v11, v12, v13, v14, v15]) (.int .i64 ((9 : Nat) : Int))).run Tryz.prog w = .ok v9 w := by kernel_rfl
theorem Tryz.idxAu10 (v0 v1 v2 v3 v4 v5 v6 v7 v8 v9 v10 v11 v12 v13 v14 v15 : Value) (w : World) : (Instr.index 24 (.agg #[v0, v1, v2, v3, v4, v5, v6, v7, v8, v9, v10, v11, v12, v13, v14, v15]) (.int .i64 ((10 : Nat) : Int))).run Tryz.prog w = .ok v10 w := by kernel_rfl
theorem Tryz.idxAu11 (v0 v1 v2 v3 v4 v5 v6 v7 v8 v9 v10 v11 v12 v13 v14 v15 : Value) (w : World) : (Instr.index 24 (.agg #[v0, v1, v2, v3, v4, v5, v6, v7, v8, v9, v10, v11, v12, v13, v14, v15]) (.int .i64 ((11 : Nat) : Int))).run Tryz.prog w = .ok v11 w := by kernel_rfl
theorem Tryz.idxAu12 (v0 v1 v2 v3 v4 v5 v6 v7 v8 v9 v10 v11 v12 v13 v14 v15 : Value) (w : World) : (Instr.index 24 (.agg #[v0, v1, v2, v3, v4, v5, v6, v7, v8, v9, v10, v11, v12, v13, v14, v15]) (.int .i64 ((12 : Nat) : Int))).run Tryz.prog w = .ok v12 w := by kernel_rfl
theorem Tryz.idxAu13 (v0 v1 v2 v3 v4 v5 v6 v7 v8 v9 v10 v11 v12 v13 v14 v15 : Value) (w : World) : (Instr.index 24 (.agg #[v0, v1, v2, v3, v4, v5, v6, v7, v8, v9, v10, v11, v12, v13, v14, v15]) (.int .i64 ((13 : Nat) : Int))).run Tryz.prog w = .ok v13 w := by kernel_rfl
theorem Tryz.idxAu14 (v0 v1 v2 v3 v4 v5 v6 v7 v8 v9 v10 v11 v12 v13 v14 v15 : Value) (w : World) : (Instr.index 24 (.agg #[v0, v1, v2, v3, v4, v5, v6, v7, v8, v9, v10, v11, v12, v13, v14, v15]) (.int .i64 ((14 : Nat) : Int))).run Tryz.prog w = .ok v14 w := by kernel_rfl
theorem Tryz.idxAu15 (v0 v1 v2 v3 v4 v5 v6 v7 v8 v9 v10 v11 v12 v13 v14 v15 : Value) (w : World) : (Instr.index 24 (.agg #[v0, v1, v2, v3, v4, v5, v6, v7, v8, v9, v10, v11, v12, v13, v14, v15]) (.int .i64 ((15 : Nat) : Int))).run Tryz.prog w = .ok v15 w := by kernel_rfl
set_option maxRecDepth 100000 in
theorem Tryz.idxAu (v0 v1 v2 v3 v4 v5 v6 v7 v8 v9 v10 v11 v12 v13 v14 v15 : Value) (k : Nat) (v : Value) (h : [v0, v1, v2, v3, v4, v5, v6, v7, v8, v9, v10, v11, v12, v13, v14, v15][k]? = some v) (w : World) : (Instr.index 24 (.agg #[v0, v1, v2, v3, v4, v5, v6, v7, v8, v9, v10, v11, v12, v13, v14, v15]) (.int .i64 (k : Int))).run Tryz.prog w = .ok v w := by
  match k, h with
  | 0, h => rw [← (Option.some.inj h : v0 = v)]; exact Tryz.idxAu0 v0 v1 v2 v3 v4 v5 v6 v7 v8 v9 v10 v11 v12 v13 v14 v15 w
  | 1, h => rw [← (Option.some.inj h : v1 = v)]; exact Tryz.idxAu1 v0 v1 v2 v3 v4 v5 v6 v7 v8 v9 v10 v11 v12 v13 v14 v15 w
  | 2, h => rw [← (Option.some.inj h : v2 = v)]; exact Tryz.idxAu2 v0 v1 v2 v3 v4 v5 v6 v7 v8 v9 v10 v11 v12 v13 v14 v15 w
  | 3, h => rw [← (Option.some.inj h : v3 = v)]; exact Tryz.idxAu3 v0 v1 v2 v3 v4 v5 v6 v7 v8 v9 v10 v11 v12 v13 v14 v15 w
  | 4, h => rw [← (Option.some.inj h : v4 = v)]; exact Tryz.idxAu4 v0 v1 v2 v3 v4 v5 v6 v7 v8 v9 v10 v11 v12 v13 v14 v15 w
  | 5, h => rw [← (Option.some.inj h : v5 = v)]; exact Tryz.idxAu5 v0 v1 v2 v3 v4 v5 v6 v7 v8 v9 v10 v11 v12 v13 v14 v15 w
  | 6, h => rw [← (Option.some.inj h : v6 = v)]; exact Tryz.idxAu6 v0 v1 v2 v3 v4 v5 v6 v7 v8 v9 v10 v11 v12 v13 v14 v15 w
  | 7, h => rw [← (Option.some.inj h : v7 = v)]; exact Tryz.idxAu7 v0 v1 v2 v3 v4 v5 v6 v7 v8 v9 v10 v11 v12 v13 v14 v15 w
  | 8, h => rw [← (Option.some.inj h : v8 = v)]; exact Tryz.idxAu8 v0 v1 v2 v3 v4 v5 v6 v7 v8 v9 v10 v11 v12 v13 v14 v15 w
  | 9, h => rw [← (Option.some.inj h : v9 = v)]; exact Tryz.idxAu9 v0 v1 v2 v3 v4 v5 v6 v7 v8 v9 v10 v11 v12 v13 v14 v15 w
  | 10, h => rw [← (Option.some.inj h : v10 = v)]; exact Tryz.idxAu10 v0 v1 v2 v3 v4 v5 v6 v7 v8 v9 v10 v11 v12 v13 v14 v15 w
  | 11, h => rw [← (Option.some.inj h : v11 = v)]; exact Tryz.idxAu11 v0 v1 v2 v3 v4 v5 v6 v7 v8 v9 v10 v11 v12 v13 v14 v15 w
  | 12, h => rw [← (Option.some.inj h : v12 = v)]; exact Tryz.idxAu12 v0 v1 v2 v3 v4 v5 v6 v7 v8 v9 v10 v11 v12 v13 v14 v15 w
  | 13, h => rw [← (Option.some.inj h : v13 = v)]; exact Tryz.idxAu13 v0 v1 v2 v3 v4 v5 v6 v7 v8 v9 v10 v11 v12 v13 v14 v15 w
  | 14, h => rw [← (Option.some.inj h : v14 = v)]; exact Tryz.idxAu14 v0 v1 v2 v3 v4 v5 v6 v7 v8 v9 v10 v11 v12 v13 v14 v15 w
  | 15, h => rw [← (Option.some.inj h : v15 = v)]; exact Tryz.idxAu15 v0 v1 v2 v3 v4 v5 v6 v7 v8 v9 v10 v11 v12 v13 v14 v15 w
  | k + 16, h => cases h

theorem Tryz.idxHexd (q : Nat) (hq : q < 16) (w : World) : (Instr.index 9 (.string ⟨#[48, 49, 50, 51, 52, 53, 54, 55, 56, 57, 97, 98, 99, 100, 101, 102]⟩) (.int .u8 (q : Int))).run Tryz.prog w = .ok (.int .u8 ((hexd q).toNat : Int)) w :=
  match q, hq with
  | 0, _ => by kernel_rfl
  | 1, _ => by kernel_rfl
  | 2, _ => by kernel_rfl
  | 3, _ => by kernel_rfl
  | 4, _ => by kernel_rfl
  | 5, _ => by kernel_rfl
  | 6, _ => by kernel_rfl
  | 7, _ => by kernel_rfl
  | 8, _ => by kernel_rfl
  | 9, _ => by kernel_rfl
  | 10, _ => by kernel_rfl
  | 11, _ => by kernel_rfl
  | 12, _ => by kernel_rfl
  | 13, _ => by kernel_rfl
  | 14, _ => by kernel_rfl
  | 15, _ => by kernel_rfl
  | q + 16, h => absurd h (by omega)
theorem and15 (c : Nat) (h : c < 256) : bits .and .u8 (c : Int) 15 = ((c % 16 : Nat) : Int) := by
  rw [show (15 : Int) = ((15 : Nat) : Int) from rfl, u8_and_nat c 15 h (by decide)]
  congr 1
  exact Nat.and_two_pow_sub_one_eq_mod c 4

set_option maxHeartbeats 1600000 in
set_option maxRecDepth 100000 in
theorem authortext_lit (v0 v1 v2 v3 v4 v5 v6 v7 v8 v9 v10 v11 v12 v13 v14 v15 : Value) (au : List UInt8) (hau : [v0, v1, v2, v3, v4, v5, v6, v7, v8, v9, v10, v11, v12, v13, v14, v15] = byteVals au) (w : World) :
    Calls Tryz.prog 50 #[.agg #[v0, v1, v2, v3, v4, v5, v6, v7, v8, v9, v10, v11, v12, v13, v14, v15]] w fun e w' => e = .returned (.string (auText au)) ∧ Below w.heap.size w w' := by
  obtain ⟨i0, hi, hz0, hz1, hz2⟩ := info_parts Tryz.infoU8
  have hl : au.length = 16 := by have := congrArg List.length hau; simpa [byteVals] using this.symm
  have hix := Lib.hid (Tryz.idxAu v0 v1 v2 v3 v4 v5 v6 v7 v8 v9 v10 v11 v12 v13 v14 v15)
  have hau' := Lib.hid hau
  have hl' := Lib.hid hl
  clear hau hl
  go_enter Tryz.func50, Tryz.ntmps50
  go_wp2_with fail
  go_loopw [3, 7] (fun v i wr => ∃ k : Nat, k ≤ 16 ∧ i = .int .i64 k ∧ wr.ownsRow (w.heap.size + 1) 5 1 v (2 * k) (byteVals (hexL (au.take k))) ∧ Below (w.heap.size + 1) (w.alloc (.cells #[v0, v1, v2, v3, v4, v5, v6, v7, v8, v9, v10, v11, v12, v13, v14, v15] 24)) wr) (fun _ i _ => 16 - (intOf i).toNat)
  case atStart => exact ⟨0, by omega, rfl, World.ownsRow_nil _ _ _ _, Below.refl _ _⟩
  case round =>
    obtain ⟨k, hk0, rfl, hown, hbel⟩ := hrel
    by_cases hk : k < 16
    · obtain ⟨c, hc⟩ : ∃ c, au[k]? = some c := ⟨au[k]'(by rw [hl'.out]; exact hk), List.getElem?_eq_getElem _⟩
      have hcell := hix.out k (.int .u8 (c.toNat : Int)) (by rw [hau'.out, byteVals, List.getElem?_map, hc]; rfl)
      have hc' := Lib.hid hc
      clear hc
      have hc256 : c.toNat < 256 := c.toNat_lt
      have hx1 : ∀ W, (Instr.index 9 (.string ⟨#[48, 49, 50, 51, 52, 53, 54, 55, 56, 57, 97, 98, 99, 100, 101, 102]⟩) (.int .u8 ((c.toNat : Int) / 16))).run Tryz.prog W = .ok (.int .u8 ((hexd (c.toNat / 16)).toNat : Int)) W := fun W => by
        rw [show ((c.toNat : Int) / 16) = ((c.toNat / 16 : Nat) : Int) from by omega]; exact Tryz.idxHexd _ (by omega) W
      have hx2 : ∀ W, (Instr.index 9 (.string ⟨#[48, 49, 50, 51, 52, 53, 54, 55, 56, 57, 97, 98, 99, 100, 101, 102]⟩) (.int .u8 (bits BinOp.and IntKind.u8 (c.toNat : Int) 15))).run Tryz.prog W = .ok (.int .u8 ((hexd (c.toNat % 16)).toNat : Int)) W := fun W => by
        rw [and15 _ hc256]; exact Tryz.idxHexd _ (by omega) W
      obtain ⟨x1, hxx1⟩ : ∃ x, x = (hexd (c.toNat / 16)) := ⟨_, rfl⟩
      obtain ⟨x2, hxx2⟩ : ∃ x, x = (hexd (c.toNat % 16)) := ⟨_, rfl⟩
      rw [← hxx1] at hx1
      rw [← hxx2] at hx2
      have hx1' := Lib.hid hxx1
      have hx2' := Lib.hid hxx2
      clear hxx1 hxx2
      have q0 : Hid (((wr.alloc (.cells #[.int .u8 (x1.toNat : Int), .int .u8 (x2.toNat : Int)] 5)).drew).ownsRow (w.heap.size + 1) 5 1 u3 (2 * k) (byteVals (hexL (au.take k)))) := hown.alloc _
      have q1 : Hid (∀ j u, [Value.int .u8 (x1.toNat : Int), .int .u8 (x2.toNat : Int)][j]? = some u → ((wr.alloc (.cells #[.int .u8 (x1.toNat : Int), .int .u8 (x2.toNat : Int)] 5)).drew).cell? ((⟨wr.heap.size, 0, none⟩ : Addr).add j) = some u) := fun j u hj => by
        rw [Addr.add_mid]
        show (wr.alloc _).cell? _ = _
        rw [cell_of_row _ wr.heap.size _ _ _ _ (heap_alloc_new wr _)]
        simpa using hj
      have q2 : Hid (∀ u ∈ [Value.int .u8 (x1.toNat : Int), .int .u8 (x2.toNat : Int)], u.oneCell' = true) := fun u hu => by
        simp only [List.mem_cons, List.mem_nil_iff, or_false] at hu
        rcases hu with rfl | rfl <;> rfl
      have q3 : Hid (2 * k + 2 ≤ maxLen) := show 2 * k + 2 ≤ maxLen by unfold maxLen; omega
      have q4 : Hid ((2 * k + 2) * 1 ≤ 140737488355328) := show (2 * k + 2) * 1 ≤ 140737488355328 by omega
      have q5 : Hid (w.heap.size + 1 ≤ ((wr.alloc (.cells #[.int .u8 (x1.toNat : Int), .int .u8 (x2.toNat : Int)] 5)).drew).heap.size) := by
        have := hbel.size
        show w.heap.size + 1 ≤ (wr.alloc _).heap.size
        simp at this ⊢; omega
      have hbel' := Lib.hid hbel
      have hown' := Lib.hid hown
      clear hbel hown
      go_wp2_with fail
      go_region_law (refine step_append_own rfl _ _ 75 rfl (w.heap.size + 1) 5 i0 (.int .u8 0) 1 1 Tryz.underlying75 hi hz0 hz1 hz2 rfl (by decide) _ _ _ rfl q0.out ⟨wr.heap.size, 0, none⟩ 2 2 [.int .u8 (x1.toNat : Int), .int .u8 (x2.toNat : Int)] rfl rfl q1.out q2.out q3.out q4.out q5.out ?_; intro v' w1 ho hg _)
      go_wp2_with fail
      all_goals
        refine ⟨⟨k + 1, by omega, by go_num, ?_, ?_⟩, by simp [intOf]; omega⟩
        · rw [hexL_next hc'.out, ← hx1'.out, ← hx2'.out, show 2 * (k + 1) = 2 * k + 2 by omega]
          exact ho
        · exact Below.grown (w := ((wr.alloc _).drew)) ((hbel'.out.alloc (by have := hbel'.out.size; simpa using this) _).drew) hg q5.out (fun j hj => (hown'.out.lt j hj).1)
    · obtain rfl : k = 16 := by omega
      have e16 : au.take 16 = au := List.take_of_length_le (by rw [hl'.out]; exact Nat.le_refl _)
      rw [e16] at hown
      have hcv := string_own hown (by decide)
      have hlt := hown.lt
      obtain ⟨g, cap, rfl, hg1, hg2⟩ := hown.form (by decide)
      have hbel' := Lib.hid hbel
      clear hbel hown hlt e16
      go_wp2_with fail
      go_ret
      exact ⟨rfl, ((Below.refl _ w).alloc (Nat.le_refl _) _).trans (hbel'.out.mono (by omega))⟩
end Go.Proofs.YtlemadbmlnjhpaaGreatDoor
