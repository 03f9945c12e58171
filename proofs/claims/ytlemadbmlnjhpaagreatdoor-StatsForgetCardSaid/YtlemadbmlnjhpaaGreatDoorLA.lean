/- append of any source to a slice of the call's own, at a step of a region that draws its order. -/
import Derived.Test.YtlemadbmlnjhpaaGreatDoorL9
import Derived.Deep.RegionHeld3
import Derived.Deep.AppendLies
import Derived.Deep.DrawnRows
import Derived.Laws.OwnMore
namespace Go.Proofs.YtlemadbmlnjhpaaGreatDoor
open Go Go.RowKit Go.Proofs
set_option linter.unusedSimpArgs false
set_option linter.unusedVariables false

/-- a slice that may be nil, whose m elements are the cells ys -/
def SrcV (W : World) (size : Nat) (u : Value) (m : Nat) (ys : List Value) : Prop :=
  ys.length = m * size ∧ ∃ A c, u = .slice A m c ∧ (A = none → u = .slice none 0 0) ∧ ∀ j y, ys[j]? = some y → ∃ b o, A = some ⟨b, o, none⟩ ∧ W.cell? ⟨b, o + j, none⟩ = some y
theorem SrcV.grown {W W' : World} {size m : Nat} {u : Value} {ys : List Value} {row : Option Nat} (h : SrcV W size u m ys) (hg : W.grownBy W' row) (hr : ∀ b o c, u = .slice (some ⟨b, o, none⟩) m c → 0 < ys.length → row ≠ some b) : SrcV W' size u m ys := by
  obtain ⟨h0, A, c, h1, h2, h3⟩ := h
  refine ⟨h0, A, c, h1, h2, fun j y hj => ?_⟩
  obtain ⟨b, o, rfl, hc⟩ := h3 j y hj
  refine ⟨b, o, rfl, ?_⟩
  have hlt := World.block_lt_of_cell? W _ hc
  rw [World.cell?_of_block (hg.block b hlt (fun e => hr b o c h1 (by have := (List.getElem?_eq_some_iff.1 hj).1; omega) e.symm))]
  exact hc
theorem SrcV.below {W W' : World} {size m : Nat} {u : Value} {ys : List Value} (h : SrcV W size u m ys) (hb : Below W.heap.size W W') : SrcV W' size u m ys := by
  obtain ⟨h0, A, c, h1, h2, h3⟩ := h
  refine ⟨h0, A, c, h1, h2, fun j y hj => ?_⟩
  obtain ⟨b, o, rfl, hc⟩ := h3 j y hj
  exact ⟨b, o, rfl, (hb.cell (p := ⟨b, _, none⟩) (World.block_lt_of_cell? W _ hc)).trans hc⟩
theorem own_empty {W : World} {base g : Nat} {e : TypeId} {size : Nat} (h : W.heap[g]? = some (.cells #[] e (0, 0))) (hb : base ≤ g) : W.ownsRow base e size (.slice (some ⟨g, 0, none⟩) 0 0) 0 [] :=
  ⟨by simp, .inr ⟨g, 0, #[], rfl, hb, h, Nat.le_refl _, by decide, by simp, by simp⟩⟩
theorem src_block {W : World} {g : Nat} {e : TypeId} {xs : List Value} {m size : Nat} (h : W.heap[g]? = some (.cells xs.toArray e (0, 0))) (hl : xs.length = m * size) : SrcV W size (.slice (some ⟨g, 0, none⟩) m m) m xs :=
  ⟨hl, some ⟨g, 0, none⟩, m, rfl, (fun h => by cases h), fun j y hj => ⟨g, 0, rfl, by rw [cell_of_row W g _ _ _ _ h, Nat.zero_add]; simpa using hj⟩⟩

section
variable {P : Program} (w : World)
theorem run_append_src (t ty : TypeId) (base : Nat) (e : TypeId) (i : TypeInfo) (z : Value) (size bytes : Nat) (ht : P.underlying t = some (.slice e)) (hi : P.info? e = some i) (hz : i.zero = some z)
    (hsize : i.size = size) (hby : i.bytes = bytes) (hzs : z.cells.size = size) (hsz : 0 < size)
    (v : Value) (n : Nat) (xs : List Value) (hown : w.ownsRow base e size v n xs)
    (u : Value) (m : Nat) (ys : List Value) (hu : SrcV w size u m ys) (h1 : ∀ u ∈ ys, u.oneCell' = true)
    (h63 : n + m ≤ maxLen) (hbytes : (n + m) * bytes ≤ 140737488355328) (hbase : base ≤ w.heap.size) :
    ∃ v' w', (Builtin.append_ #[t, t] ty #[v, u]).run P w = .ok v' w' ∧ w'.ownsRow base e size v' (n + m) (xs ++ ys) ∧ w.grownBy w' v.ownBlock ∧ (v'.ownBlock = v.ownBlock ∨ v'.ownBlock = some w.heap.size) := by
  obtain ⟨hl, A, c, rfl, hnil, hc⟩ := hu
  cases A with
  | none =>
    obtain ⟨rfl, rfl⟩ : m = 0 ∧ c = 0 := by have := hnil rfl; injection this with _ h2 h3; exact ⟨h2, h3⟩
    have hy : ys = [] := List.eq_nil_of_length_eq_zero (by simpa using hl)
    subst hy
    refine ⟨v, w, run_append_owned_none (P := P) (w := w) base t ty e i size ht hi v n xs hown, by simpa using hown, ⟨rfl, rfl, rfl, Nat.le_refl _, fun _ _ _ => rfl⟩, .inl rfl⟩
  | some ad =>
    obtain ⟨b, o, s⟩ := ad
    rcases Nat.eq_zero_or_pos ys.length with h0 | hpos
    · obtain ⟨v', w', hr, h2, h3, _, h5⟩ := run_append_own_at (P := P) w base t ty e i z size bytes ht hi hz hsize hby hzs hsz v n xs hown ⟨b, o, s⟩ m c ys hl (fun j u hj => by have := (List.getElem?_eq_some_iff.1 hj).1; omega) h1 h63 hbytes hbase
      exact ⟨v', w', hr, h2, h3, h5⟩
    · obtain ⟨y, hy⟩ : ∃ y, ys[0]? = some y := ⟨_, List.getElem?_eq_getElem hpos⟩
      obtain ⟨b', o', hA, _⟩ := hc 0 y hy
      obtain ⟨rfl, rfl, rfl⟩ : b = b' ∧ o = o' ∧ s = none := by injection hA with hA; injection hA with h1 h2 h3; exact ⟨h1, h2, h3⟩
      obtain ⟨v', w', hr, h2, h3, _, h5⟩ := run_append_own_at (P := P) w base t ty e i z size bytes ht hi hz hsize hby hzs hsz v n xs hown ⟨b, o, none⟩ m c ys hl (fun j u hj => by
        obtain ⟨b', o', hA, hh⟩ := hc j u hj
        obtain ⟨rfl, rfl⟩ : b = b' ∧ o = o' := by injection hA with hA; injection hA with h1 h2 h3; exact ⟨h1, h2⟩
        rw [Addr.add_mid]; exact hh) h1 h63 hbytes hbase
      exact ⟨v', w', hr, h2, h3, h5⟩

theorem wp_append_src {o : Oper} {a : Act} {K : Act → World → Prop} {Q : Exit → Act → World → Prop} (s x : Operand) (t : TypeId)
    (ho : o.op = .call { callee := .builtin .append, args := #[s, x], argTypes := #[t, t] })
    (base : Nat) (e : TypeId) (i : TypeInfo) (z : Value) (size bytes : Nat) (ht : P.underlying t = some (.slice e)) (hi : P.info? e = some i) (hz : i.zero = some z)
    (hsize : i.size = size) (hby : i.bytes = bytes) (hzs : z.cells.size = size) (hsz : 0 < size)
    (v : Value) (n : Nat) (xs : List Value) (hs : a.eval s = v) (hown : w.ownsRow base e size v n xs)
    (u : Value) (m : Nat) (ys : List Value) (hx : a.eval x = u) (hu : SrcV w size u m ys) (h1 : ∀ u ∈ ys, u.oneCell' = true)
    (h63 : n + m ≤ maxLen) (hbytes : (n + m) * bytes ≤ 140737488355328) (hbase : base ≤ w.heap.size)
    (h : ∀ v' w', w'.ownsRow base e size v' (n + m) (xs ++ ys) → w.grownBy w' v.ownBlock → (v'.ownBlock = v.ownBlock ∨ v'.ownBlock = some w.heap.size) → K (a.put o.dst v') w') : o.wp P a w K Q := by
  obtain ⟨v', w', hr, h2, h3, h4⟩ := run_append_src (P := P) w t o.type base e i z size bytes ht hi hz hsize hby hzs hsz v n xs hown u m ys hu h1 h63 hbytes hbase
  unfold Oper.wp execOp
  simp only [ho, resolve, invoke, builtin, Sem.run_bind, Sem.run_pure, Result.andThen_ok, List.map_toArray, List.map_cons, List.map_nil, hs, hx, hr]
  exact h v' w' h2 h3 h4
theorem wpList_append_src {ops : Array Oper} {rest : List Oper} {o : Oper} {a : Act} {Q : Exit → Act → World → Prop} (hgd : o.guard = none) (s x : Operand) (t : TypeId)
    (ho : o.op = .call { callee := .builtin .append, args := #[s, x], argTypes := #[t, t] })
    (base : Nat) (e : TypeId) (i : TypeInfo) (z : Value) (size bytes : Nat) (ht : P.underlying t = some (.slice e)) (hi : P.info? e = some i) (hz : i.zero = some z)
    (hsize : i.size = size) (hby : i.bytes = bytes) (hzs : z.cells.size = size) (hsz : 0 < size)
    (v : Value) (n : Nat) (xs : List Value) (hs : a.eval s = v) (hown : w.ownsRow base e size v n xs)
    (u : Value) (m : Nat) (ys : List Value) (hx : a.eval x = u) (hu : SrcV w size u m ys) (h1 : ∀ u ∈ ys, u.oneCell' = true)
    (h63 : n + m ≤ maxLen) (hbytes : (n + m) * bytes ≤ 140737488355328) (hbase : base ≤ w.heap.size)
    (h : ∀ v' w', w'.ownsRow base e size v' (n + m) (xs ++ ys) → w.grownBy w' v.ownBlock → (v'.ownBlock = v.ownBlock ∨ v'.ownBlock = some w.heap.size) → wpList P ops Q rest (a.put o.dst v') w') : wpList P ops Q (o :: rest) a w :=
  wpList_plain hgd fun _ hK => wp_append_src w s x t ho base e i z size bytes ht hi hz hsize hby hzs hsz v n xs hs hown u m ys hx hu h1 h63 hbytes hbase fun v' w' h2 h3 h4 => hK _ _ (h v' w' h2 h3 h4)
theorem step_append_src {ops : Array Oper} {o : Oper} {a : Act} {K : Act → World → Prop} {Q : Exit → Act → World → Prop} {E : Prop} (hgd : o.guard = none) (s x : Operand) (t : TypeId)
    (ho : o.op = .call { callee := .builtin .append, args := #[s, x], argTypes := #[t, t] })
    (base : Nat) (e : TypeId) (i : TypeInfo) (z : Value) (size bytes : Nat) (ht : P.underlying t = some (.slice e)) (hi : P.info? e = some i) (hz : i.zero = some z)
    (hsize : i.size = size) (hby : i.bytes = bytes) (hzs : z.cells.size = size) (hsz : 0 < size)
    (v : Value) (n : Nat) (xs : List Value) (hs : a.eval s = v) (hown : w.ownsRow base e size v n xs)
    (u : Value) (m : Nat) (ys : List Value) (hx : a.eval x = u) (hu : SrcV w size u m ys) (h1 : ∀ u ∈ ys, u.oneCell' = true)
    (h63 : n + m ≤ maxLen) (hbytes : (n + m) * bytes ≤ 140737488355328) (hbase : base ≤ w.heap.size)
    (h : ∀ v' w', w'.ownsRow base e size v' (n + m) (xs ++ ys) → w.grownBy w' v.ownBlock → (v'.ownBlock = v.ownBlock ∨ v'.ownBlock = some w.heap.size) → K (a.put o.dst v') w') :
    if Region.wanted o (yielded ops a.tmps) = true then Oper.wp P o a w K Q else E := by
  have hw : Region.wanted o (yielded ops a.tmps) = true := by simp [Region.wanted, hgd]
  rw [if_pos hw]
  exact wp_append_src w s x t ho base e i z size bytes ht hi hz hsize hby hzs hsz v n xs hs hown u m ys hx hu h1 h63 hbytes hbase h
theorem step_append_bel {ops : Array Oper} {o : Oper} {a : Act} {K : Act → World → Prop} {Q : Exit → Act → World → Prop} {E : Prop} (hgd : o.guard = none) (s x : Operand) (t : TypeId)
    (ho : o.op = .call { callee := .builtin .append, args := #[s, x], argTypes := #[t, t] })
    (w0 : World) (hb : Below w0.heap.size w0 w) (e : TypeId) (i : TypeInfo) (z : Value) (size bytes : Nat) (ht : P.underlying t = some (.slice e)) (hi : P.info? e = some i) (hz : i.zero = some z)
    (hsize : i.size = size) (hby : i.bytes = bytes) (hzs : z.cells.size = size) (hsz : 0 < size)
    (v : Value) (n : Nat) (xs : List Value) (hs : a.eval s = v) (hown : w.ownsRow w0.heap.size e size v n xs)
    (u : Value) (m : Nat) (ys : List Value) (hx : a.eval x = u) (hu : SrcV w size u m ys) (h1 : ∀ u ∈ ys, u.oneCell' = true)
    (h63 : n + m ≤ 1000000) (hbytes : bytes ≤ 1000)
    (h : ∀ v' w', w'.ownsRow w0.heap.size e size v' (n + m) (xs ++ ys) → Below w0.heap.size w0 w' → w.grownBy w' v.ownBlock → (v'.ownBlock = v.ownBlock ∨ v'.ownBlock = some w.heap.size) → K (a.put o.dst v') w') :
    if Region.wanted o (yielded ops a.tmps) = true then Oper.wp P o a w K Q else E :=
  step_append_src w hgd s x t ho w0.heap.size e i z size bytes ht hi hz hsize hby hzs hsz v n xs hs hown u m ys hx hu h1 (by unfold maxLen; omega)
    (by have := Nat.mul_le_mul h63 hbytes; omega) hb.size fun v' w' h2 h3 h4 => h v' w' h2 (hb.grown h3 hb.size (fun j hj => (hown.lt j hj).1)) h3 h4
end

/-- slices of a slice of cells -/
theorem sliced_src {W : World} {v : Value} {xs : List Value} {base : Nat} {e : TypeId} (h : W.ownsRow base e 1 v xs.length xs) {k : Nat} (hk : k ≤ xs.length) :
    ∃ A n c, v = .slice A n c ∧ n = xs.length ∧ n ≤ c ∧ c ≤ maxLen ∧ SrcV W 1 (sliced A 0 k c 1) k (xs.take k) ∧ SrcV W 1 (sliced A k n c 1) (n - k) (xs.drop k) := by
  rcases h.2 with ⟨rfl, h0⟩ | ⟨g, cap, cur, rfl, hb', hg, h4, h5, h6, h7⟩
  · have hx : xs = [] := List.eq_nil_of_length_eq_zero h0
    subst hx
    obtain rfl : k = 0 := by simpa using hk
    exact ⟨none, 0, 0, rfl, rfl, Nat.le_refl _, by decide, ⟨by simp, none, 0, rfl, fun _ => rfl, fun j y hj => by simp at hj⟩, ⟨by simp, none, 0, rfl, fun _ => rfl, fun j y hj => by simp at hj⟩⟩
  · have hcell : ∀ j y, xs[j]? = some y → W.cell? ⟨g, j, none⟩ = some y := fun j y hj => by
      rw [h.cellAt j (by have := (List.getElem?_eq_some_iff.1 hj).1; omega)]; exact hj
    refine ⟨_, _, _, rfl, rfl, h4, h5, ⟨by simp; omega, some ⟨g, 0, none⟩, cap, ?_, (fun h => by cases h), fun j y hj => ⟨g, 0, rfl, ?_⟩⟩, ?_⟩
    · unfold sliced
      by_cases hc : cap = 0
      · simp [hc]
      · simp [hc, Addr.add_mid]
    · rw [Nat.zero_add]
      refine hcell j y ?_
      rw [List.getElem?_take] at hj
      split at hj
      · exact hj
      · cases hj
    · by_cases hc : cap = k
      · have hk2 : xs.length = k := by omega
        refine ⟨by simp, some ⟨g, 0, none⟩, cap - k, by simp [sliced, hc], (fun h => by cases h), fun j y hj => ?_⟩
        rw [List.drop_of_length_le (by omega)] at hj
        simp at hj
      · refine ⟨by simp, some ⟨g, k, none⟩, cap - k, by simp [sliced, hc, Addr.add_mid], (fun h => by cases h), fun j y hj => ⟨g, k, rfl, hcell _ _ ?_⟩⟩
        rw [List.getElem?_drop] at hj
        exact hj
end Go.Proofs.YtlemadbmlnjhpaaGreatDoor
