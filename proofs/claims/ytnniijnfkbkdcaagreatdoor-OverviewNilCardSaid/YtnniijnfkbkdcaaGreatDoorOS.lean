/- append of any source to a slice of the call's own (what LA has of it, for the overview's seat). -/
import Derived.Test.YtnniijnfkbkdcaaGreatDoorOE
import Derived.Deep.RegionHeld3
import Derived.Deep.AppendLies
import Derived.Deep.DrawnRows
import Derived.Laws.OwnMore
namespace Go.Proofs.YtnniijnfkbkdcaaGreatDoor
open Go Go.RowKit Go.Proofs
set_option linter.unusedSimpArgs false
set_option linter.unusedVariables false

/-- a slice that may be nil, whose m elements are the cells ys -/
def SrcV (W : World) (size : Nat) (u : Value) (m : Nat) (ys : List Value) : Prop :=
  ys.length = m * size ∧ ∃ A c, u = .slice A m c ∧ (A = none → u = .slice none 0 0) ∧ ∀ j y, ys[j]? = some y → ∃ b o, A = some ⟨b, o, none⟩ ∧ W.cell? ⟨b, o + j, none⟩ = some y
theorem SrcV.grown {W W' : World} {size m : Nat} {u : Value} {ys : List Value} {row : Option Nat} (h : SrcV W size u m ys) (hg : W.grownBy W' row) (hr : ∀ b o c, u = .slice (some ⟨b, o, none⟩) m c → 0 < ys.length → row ≠ some b) : SrcV W' size u m ys := by
  obtain ⟨h0, A, c, h1, h2, h3⟩ := h
  refine ⟨h0, A, c, h1, h2, fun j y hj => ?_⟩
  obtain ⟨b, o, rfl, hc⟩ := h3 j y hj
  refine ⟨b, o, rfl, ?_⟩
  have hlt := World.block_lt_of_cell? W _ hc
  rw [World.cell?_of_block (hg.block b hlt (fun e => hr b o c h1 (by have := (List.getElem?_eq_some_iff.1 hj).1; omega) e.symm))]
  exact hc
theorem SrcV.below {W W' : World} {size m : Nat} {u : Value} {ys : List Value} (h : SrcV W size u m ys) (hb : Below W.heap.size W W') : SrcV W' size u m ys := by
  obtain ⟨h0, A, c, h1, h2, h3⟩ := h
  refine ⟨h0, A, c, h1, h2, fun j y hj => ?_⟩
  obtain ⟨b, o, rfl, hc⟩ := h3 j y hj
  exact ⟨b, o, rfl, (hb.cell (p := ⟨b, _, none⟩) (World.block_lt_of_cell? W _ hc)).trans hc⟩
theorem own_empty {W : World} {base g : Nat} {e : TypeId} {size : Nat} (h : W.heap[g]? = some (.cells #[] e (0, 0))) (hb : base ≤ g) : W.ownsRow base e size (.slice (some ⟨g, 0, none⟩) 0 0) 0 [] :=
  ⟨by simp, .inr ⟨g, 0, #[], rfl, hb, h, Nat.le_refl _, by decide, by simp, by simp⟩⟩
theorem src_block {W : World} {g : Nat} {e : TypeId} {xs : List Value} {m size : Nat} (h : W.heap[g]? = some (.cells xs.toArray e (0, 0))) (hl : xs.length = m * size) : SrcV W size (.slice (some ⟨g, 0, none⟩) m m) m xs :=
  ⟨hl, some ⟨g, 0, none⟩, m, rfl, (fun h => by cases h), fun j y hj => ⟨g, 0, rfl, by rw [cell_of_row W g _ _ _ _ h, Nat.zero_add]; simpa using hj⟩⟩

section
variable {P : Program} (w : World)
theorem run_append_src (t ty : TypeId) (base : Nat) (e : TypeId) (i : TypeInfo) (z : Value) (size bytes : Nat) (ht : P.underlying t = some (.slice e)) (hi : P.info? e = some i) (hz : i.zero = some z)
    (hsize : i.size = size) (hby : i.bytes = bytes) (hzs : z.cells.size = size) (hsz : 0 < size)
    (v : Value) (n : Nat) (xs : List Value) (hown : w.ownsRow base e size v n xs)
    (u : Value) (m : Nat) (ys : List Value) (hu : SrcV w size u m ys) (h1 : ∀ u ∈ ys, u.oneCell' = true)
    (h63 : n + m ≤ maxLen) (hbytes : (n + m) * bytes ≤ 140737488355328) (hbase : base ≤ w.heap.size) :
    ∃ v' w', (Builtin.append_ #[t, t] ty #[v, u]).run P w = .ok v' w' ∧ w'.ownsRow base e size v' (n + m) (xs ++ ys) ∧ w.grownBy w' v.ownBlock ∧ (v'.ownBlock = v.ownBlock ∨ v'.ownBlock = some w.heap.size) := by
  obtain ⟨hl, A, c, rfl, hnil, hc⟩ := hu
  cases A with
  | none =>
    obtain ⟨rfl, rfl⟩ : m = 0 ∧ c = 0 := by have := hnil rfl; injection this with _ h2 h3; exact ⟨h2, h3⟩
    have hy : ys = [] := List.eq_nil_of_length_eq_zero (by simpa using hl)
    subst hy
    refine ⟨v, w, run_append_owned_none (P := P) (w := w) base t ty e i size ht hi v n xs hown, by simpa using hown, ⟨rfl, rfl, rfl, Nat.le_refl _, fun _ _ _ => rfl⟩, .inl rfl⟩
  | some ad =>
    obtain ⟨b, o, s⟩ := ad
    rcases Nat.eq_zero_or_pos ys.length with h0 | hpos
    · obtain ⟨v', w', hr, h2, h3, _, h5⟩ := run_append_own_at (P := P) w base t ty e i z size bytes ht hi hz hsize hby hzs hsz v n xs hown ⟨b, o, s⟩ m c ys hl (fun j u hj => by have := (List.getElem?_eq_some_iff.1 hj).1; omega) h1 h63 hbytes hbase
      exact ⟨v', w', hr, h2, h3, h5⟩
    · obtain ⟨y, hy⟩ : ∃ y, ys[0]? = some y := ⟨_, List.getElem?_eq_getElem hpos⟩
      obtain ⟨b', o', hA, _⟩ := hc 0 y hy
      obtain ⟨rfl, rfl, rfl⟩ : b = b' ∧ o = o' ∧ s = none := by injection hA with hA; injection hA with h1 h2 h3; exact ⟨h1, h2, h3⟩
      obtain ⟨v', w', hr, h2, h3, _, h5⟩ := run_append_own_at (P := P) w base t ty e i z size bytes ht hi hz hsize hby hzs hsz v n xs hown ⟨b, o, none⟩ m c ys hl (fun j u hj => by
        obtain ⟨b', o', hA, hh⟩ := hc j u hj
        obtain ⟨rfl, rfl⟩ : b = b' ∧ o = o' := by injection hA with hA; injection hA with h1 h2 h3; exact ⟨h1, h2⟩
        rw [Addr.add_mid]; exact hh) h1 h63 hbytes hbase
      exact ⟨v', w', hr, h2, h3, h5⟩

theorem wp_append_src {o : Oper} {a : Act} {K : Act → World → Prop} {Q : Exit → Act → World → Prop} (s x : Operand) (t : TypeId)
    (ho : o.op = .call { callee := .builtin .append, args := #[s, x], argTypes := #[t, t] })
    (base : Nat) (e : TypeId) (i : TypeInfo) (z : Value) (size bytes : Nat) (ht : P.underlying t = some (.slice e)) (hi : P.info? e = some i) (hz : i.zero = some z)
    (hsize : i.size = size) (hby : i.bytes = bytes) (hzs : z.cells.size = size) (hsz : 0 < size)
    (v : Value) (n : Nat) (xs : List Value) (hs : a.eval s = v) (hown : w.ownsRow base e size v n xs)
    (u : Value) (m : Nat) (ys : List Value) (hx : a.eval x = u) (hu : SrcV w size u m ys) (h1 : ∀ u ∈ ys, u.oneCell' = true)
    (h63 : n + m ≤ maxLen) (hbytes : (n + m) * bytes ≤ 140737488355328) (hbase : base ≤ w.heap.size)
    (h : ∀ v' w', w'.ownsRow base e size v' (n + m) (xs ++ ys) → w.grownBy w' v.ownBlock → (v'.ownBlock = v.ownBlock ∨ v'.ownBlock = some w.heap.size) → K (a.put o.dst v') w') : o.wp P a w K Q := by
  obtain ⟨v', w', hr, h2, h3, h4⟩ := run_append_src (P := P) w t o.type base e i z size bytes ht hi hz hsize hby hzs hsz v n xs hown u m ys hu h1 h63 hbytes hbase
  unfold Oper.wp execOp
  simp only [ho, resolve, invoke, builtin, Sem.run_bind, Sem.run_pure, Result.andThen_ok, List.map_toArray, List.map_cons, List.map_nil, hs, hx, hr]
  exact h v' w' h2 h3 h4
theorem wpList_append_src {ops : Array Oper} {rest : List Oper} {o : Oper} {a : Act} {Q : Exit → Act → World → Prop} (hgd : o.guard = none) (s x : Operand) (t : TypeId)
    (ho : o.op = .call { callee := .builtin .append, args := #[s, x], argTypes := #[t, t] })
    (base : Nat) (e : TypeId) (i : TypeInfo) (z : Value) (size bytes : Nat) (ht : P.underlying t = some (.slice e)) (hi : P.info? e = some i) (hz : i.zero = some z)
    (hsize : i.size = size) (hby : i.bytes = bytes) (hzs : z.cells.size = size) (hsz : 0 < size)
    (v : Value) (n : Nat) (xs : List Value) (hs : a.eval s = v) (hown : w.ownsRow base e size v n xs)
    (u : Value) (m : Nat) (ys : List Value) (hx : a.eval x = u) (hu : SrcV w size u m ys) (h1 : ∀ u ∈ ys, u.oneCell' = true)
    (h63 : n + m ≤ maxLen) (hbytes : (n + m) * bytes ≤ 140737488355328) (hbase : base ≤ w.heap.size)
    (h : ∀ v' w', w'.ownsRow base e size v' (n + m) (xs ++ ys) → w.grownBy w' v.ownBlock → (v'.ownBlock = v.ownBlock ∨ v'.ownBlock = some w.heap.size) → wpList P ops Q rest (a.put o.dst v') w') : wpList P ops Q (o :: rest) a w :=
  wpList_plain hgd fun _ hK => wp_append_src w s x t ho base e i z size bytes ht hi hz hsize hby hzs hsz v n xs hs hown u m ys hx hu h1 h63 hbytes hbase fun v' w' h2 h3 h4 => hK _ _ (h v' w' h2 h3 h4)
theorem step_append_src {ops : Array Oper} {o : Oper} {a : Act} {K : Act → World → Prop} {Q : Exit → Act → World → Prop} {E : Prop} (hgd : o.guard = none) (s x : Operand) (t : TypeId)
    (ho : o.op = .call { callee := .builtin .append, args := #[s, x], argTypes := #[t, t] })
    (base : Nat) (e : TypeId) (i : TypeInfo) (z : Value) (size bytes : Nat) (ht : P.underlying t = some (.slice e)) (hi : P.info? e = some i) (hz : i.zero = some z)
    (hsize : i.size = size) (hby : i.bytes = bytes) (hzs : z.cells.size = size) (hsz : 0 < size)
    (v : Value) (n : Nat) (xs : List Value) (hs : a.eval s = v) (hown : w.ownsRow base e size v n xs)
    (u : Value) (m : Nat) (ys : List Value) (hx : a.eval x = u) (hu : SrcV w size u m ys) (h1 : ∀ u ∈ ys, u.oneCell' = true)
    (h63 : n + m ≤ maxLen) (hbytes : (n + m) * bytes ≤ 140737488355328) (hbase : base ≤ w.heap.size)
    (h : ∀ v' w', w'.ownsRow base e size v' (n + m) (xs ++ ys) → w.grownBy w' v.ownBlock → (v'.ownBlock = v.ownBlock ∨ v'.ownBlock = some w.heap.size) → K (a.put o.dst v') w') :
    if Region.wanted o (yielded ops a.tmps) = true then Oper.wp P o a w K Q else E := by
  have hw : Region.wanted o (yielded ops a.tmps) = true := by simp [Region.wanted, hgd]
  rw [if_pos hw]
  exact wp_append_src w s x t ho base e i z size bytes ht hi hz hsize hby hzs hsz v n xs hs hown u m ys hx hu h1 h63 hbytes hbase h
end

end Go.Proofs.YtnniijnfkbkdcaaGreatDoor
