/- The order of keys is total. -/
import Derived.Test.YtlemadbmlnjhpaaGreatDoorL3
import Derived.Sort.Statements
import Derived.Shelf.SlSortCmp.Insertion
namespace Go.Proofs.YtlemadbmlnjhpaaGreatDoor
open Go Go.RowKit Go.Proofs
set_option linter.unusedSimpArgs false
set_option linter.unusedVariables false

/-- a comparison that orders totally -/
structure TotC {α : Type} (c : α → α → Int) : Prop where
  eq : ∀ x y, c x y = 0 ↔ x = y
  anti : ∀ x y, c x y < 0 ↔ 0 < c y x
  trans : ∀ x y z, c x y < 0 → c y z < 0 → c x z < 0
theorem totC_int : TotC Lib.compareInt where
  eq x y := by unfold Lib.compareInt; split <;> (try split) <;> omega
  anti x y := by unfold Lib.compareInt; split <;> (try split) <;> (try split) <;> (try split) <;> omega
  trans x y z := by unfold Lib.compareInt; split <;> (try split) <;> (try split) <;> (try split) <;> (try split) <;> (try split) <;> omega
theorem u8_trich (a b : UInt8) : a < b ∨ a = b ∨ b < a := by
  rcases Nat.lt_trichotomy a.toNat b.toNat with h | h | h
  · exact .inl (UInt8.lt_iff_toNat_lt.2 h)
  · exact .inr (.inl (UInt8.toNat_inj.1 h))
  · exact .inr (.inr (UInt8.lt_iff_toNat_lt.2 h))
theorem u8_irrefl (a : UInt8) : ¬ a < a := fun h => Nat.lt_irrefl _ (UInt8.lt_iff_toNat_lt.1 h)
theorem u8_asymm {a b : UInt8} (h : a < b) : ¬ b < a := fun h' => Nat.lt_asymm (UInt8.lt_iff_toNat_lt.1 h) (UInt8.lt_iff_toNat_lt.1 h')
theorem u8_trans {a b c : UInt8} (h : a < b) (h' : b < c) : a < c := UInt8.lt_iff_toNat_lt.2 (Nat.lt_trans (UInt8.lt_iff_toNat_lt.1 h) (UInt8.lt_iff_toNat_lt.1 h'))
theorem cb_eq : ∀ (x y : List UInt8), Lib.compareBytes x y = 0 ↔ x = y
  | [], [] => by simp [Lib.compareBytes]
  | [], _ :: _ => by simp [Lib.compareBytes]
  | _ :: _, [] => by simp [Lib.compareBytes]
  | a :: xs, b :: ys => by
    have ih := cb_eq xs ys
    rw [Lib.compareBytes]
    rcases u8_trich a b with h | rfl | h
    · rw [if_pos h]; exact ⟨fun h' => absurd h' (by decide), fun h' => absurd h (by rw [(List.cons.inj h').1]; exact u8_irrefl _)⟩
    · rw [if_neg (u8_irrefl a), if_neg (u8_irrefl a), ih]; simp
    · rw [if_neg (u8_asymm h), if_pos h]; exact ⟨fun h' => absurd h' (by decide), fun h' => absurd h (by rw [(List.cons.inj h').1]; exact u8_irrefl _)⟩
theorem cb_anti : ∀ (x y : List UInt8), Lib.compareBytes x y < 0 ↔ 0 < Lib.compareBytes y x
  | [], [] => by simp [Lib.compareBytes]
  | [], _ :: _ => by simp [Lib.compareBytes]
  | _ :: _, [] => by simp [Lib.compareBytes]
  | a :: xs, b :: ys => by
    have ih := cb_anti xs ys
    rw [Lib.compareBytes, Lib.compareBytes]
    rcases u8_trich a b with h | rfl | h
    · rw [if_pos h, if_neg (u8_asymm h), if_pos h]; decide
    · rw [if_neg (u8_irrefl a), if_neg (u8_irrefl a), if_neg (u8_irrefl a), if_neg (u8_irrefl a), ih]
    · rw [if_neg (u8_asymm h), if_pos h, if_pos h]; decide
theorem cb_trans : ∀ (x y z : List UInt8), Lib.compareBytes x y < 0 → Lib.compareBytes y z < 0 → Lib.compareBytes x z < 0
  | [], [], z, h, _ => by simp [Lib.compareBytes] at h
  | [], _ :: _, [], _, h => by simp [Lib.compareBytes] at h
  | [], _ :: _, _ :: _, _, _ => by simp [Lib.compareBytes]
  | _ :: _, [], z, h, _ => by simp [Lib.compareBytes] at h
  | _ :: _, _ :: _, [], _, h => by simp [Lib.compareBytes] at h
  | a :: xs, b :: ys, c :: zs, h1, h2 => by
    rw [Lib.compareBytes] at h1 h2 ⊢
    rcases u8_trich a b with h | rfl | h
    · rcases u8_trich b c with k | rfl | k
      · rw [if_pos (u8_trans h k)]; decide
      · rw [if_pos h]; decide
      · rw [if_neg (u8_asymm k), if_pos k] at h2; exact absurd h2 (by decide)
    · rcases u8_trich a c with k | rfl | k
      · rw [if_pos k]; decide
      · rw [if_neg (u8_irrefl a), if_neg (u8_irrefl a)] at h1 h2 ⊢
        exact cb_trans xs ys zs h1 h2
      · rw [if_neg (u8_asymm k), if_pos k] at h2; exact absurd h2 (by decide)
    · rw [if_neg (u8_asymm h), if_pos h] at h1; exact absurd h1 (by decide)
def cbK (x y : ByteArray) : Int := Lib.compareBytes x.data.toList y.data.toList
theorem totC_bytes : TotC cbK where
  eq x y := by
    unfold cbK; rw [cb_eq]
    exact ⟨fun h => bytes_beq_true (by rw [ByteArray.toList_eq, ByteArray.toList_eq, h]; simp), fun h => by rw [h]⟩
  anti x y := cb_anti _ _
  trans x y z := cb_trans _ _ _
theorem totC_lex {α β : Type} {c : α → α → Int} {d : β → β → Int} (hc : TotC c) (hd : TotC d) : TotC (fun (x y : α × β) => if c x.1 y.1 ≠ 0 then c x.1 y.1 else d x.2 y.2) where
  eq x y := by
    by_cases h : c x.1 y.1 = 0
    · simp only [h, ne_eq, not_true_eq_false, if_false]
      rw [hd.eq]
      have := (hc.eq _ _).1 h
      exact ⟨fun h' => Prod.ext this h', fun h' => by rw [h']⟩
    · simp only [ne_eq, h, not_false_eq_true, if_true]
      exact ⟨fun h' => h'.elim, fun h' => absurd ((hc.eq _ _).2 (by rw [h'])) h⟩
  anti x y := by
    by_cases h : c x.1 y.1 = 0
    · have e := (hc.eq _ _).1 h
      have h' : c y.1 x.1 = 0 := (hc.eq _ _).2 e.symm
      simp only [h, h', ne_eq, not_true_eq_false, if_false]
      exact hd.anti _ _
    · have h' : ¬ c y.1 x.1 = 0 := fun h0 => h ((hc.eq _ _).2 ((hc.eq _ _).1 h0).symm)
      simp only [ne_eq, h, h', not_false_eq_true, if_true]
      exact hc.anti _ _
  trans x y z := by
    intro h1 h2
    by_cases hxy : c x.1 y.1 = 0
    · simp only [hxy, ne_eq, not_true_eq_false, if_false] at h1
      have e := (hc.eq _ _).1 hxy
      rw [← e] at h2
      by_cases hyz : c x.1 z.1 = 0
      · simp only [hyz, ne_eq, not_true_eq_false, if_false] at h2 ⊢
        exact hd.trans _ _ _ h1 h2
      · simp only [ne_eq, hyz, not_false_eq_true, if_true] at h2 ⊢
        exact h2
    · simp only [ne_eq, hxy, not_false_eq_true, if_true] at h1
      by_cases hyz : c y.1 z.1 = 0
      · have e := (hc.eq _ _).1 hyz
        rw [← e]
        simp only [ne_eq, hxy, not_false_eq_true, if_true]
        exact h1
      · simp only [ne_eq, hyz, not_false_eq_true, if_true] at h2
        have h3 := hc.trans _ _ _ h1 h2
        have h4 : ¬ c x.1 z.1 = 0 := by omega
        simp only [ne_eq, h4, not_false_eq_true, if_true]
        exact h3
theorem cmpK_lex (x y : Key) : cmpK x y = (fun (x y : Key) => if Lib.compareInt x.1 y.1 ≠ 0 then Lib.compareInt x.1 y.1 else (fun (x y : Int × ByteArray) => if Lib.compareInt x.1 y.1 ≠ 0 then Lib.compareInt x.1 y.1 else cbK x.2 y.2) x.2 y.2) x y := by
  simp only [cmpK, orL, cbK]
  repeat' split
  all_goals first | rfl | (simp_all; done) | omega
theorem totC_key : TotC cmpK := by
  have h := totC_lex totC_int (totC_lex totC_int totC_bytes)
  exact ⟨fun x y => by rw [cmpK_lex]; exact h.eq x y, fun x y => by rw [cmpK_lex, cmpK_lex]; exact h.anti x y, fun x y z => by rw [cmpK_lex, cmpK_lex, cmpK_lex]; exact h.trans x y z⟩
theorem TotC.swo {α : Type} {c : α → α → Int} (h : TotC c) : Go.Sort.SWO (ltOf c) where
  irrefl x := by
    have := (h.eq x x).2 rfl
    simp [ltOf, this]
  trans x y z h1 h2 := by
    simp only [ltOf, decide_eq_true_eq] at *
    exact h.trans _ _ _ h1 h2
  ntrans x y z h1 h2 := by
    simp only [ltOf, decide_eq_false_iff_not] at *
    intro hxz
    by_cases hyx : c y x < 0
    · exact h2 (h.trans _ _ _ hyx hxz)
    · have : c x y = 0 := by have := h.anti y x; omega
      rw [← (h.eq _ _).1 this] at h2
      exact h2 hxz
theorem TotC.total {α : Type} {c : α → α → Int} (h : TotC c) (x y : α) (h1 : ltOf c x y = false) (h2 : ltOf c y x = false) : x = y := by
  simp only [ltOf, decide_eq_false_iff_not] at *
  exact (h.eq _ _).1 (by have := h.anti y x; omega)
end Go.Proofs.YtlemadbmlnjhpaaGreatDoor
