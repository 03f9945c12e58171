/- The plain law: the sums of the articles' keys are the model's counts. -/
import Derived.Test.YtlemadbmlnjhpaaGreatDoorKH
namespace Go.Proofs.YtlemadbmlnjhpaaGreatDoor
open Go Go.RowKit Go.Proofs
set_option linter.unusedSimpArgs false
set_option linter.unusedVariables false

/-- the strings of a list are pairwise different, told as stFrom tells it -/
theorem stFrom_facts : ∀ (seen l : List ByteArray), stFrom seen l = 0 → l.Nodup ∧ (∀ x ∈ l, x ∉ seen) ∧ ∀ x ∈ l, siteErr x = 0
  | seen, [], _ => ⟨List.nodup_nil, fun x hx => by simp at hx, fun x hx => by simp at hx⟩
  | seen, z :: r, h => by
    rw [stFrom] at h
    split at h
    · rename_i h1; exact absurd h h1
    · rename_i h1
      split at h
      · cases h
      · rename_i h2
        obtain ⟨h3, h4, h5⟩ := stFrom_facts (seen ++ [z]) r h
        have hz : z ∉ seen := fun hm => h2 ((Lib.containsS_iff _ _).2 hm)
        refine ⟨List.nodup_cons.2 ⟨fun hm => by have := h4 z hm; simp at this, h3⟩, fun x hx => ?_, fun x hx => ?_⟩
        · rcases List.mem_cons.1 hx with rfl | hx
          · exact hz
          · have := h4 x hx; simp at this; exact this.1
        · rcases List.mem_cons.1 hx with rfl | hx
          · simpa using h1
          · exact h5 x hx
theorem glFrom_facts : ∀ (seen l : List ByteArray), glFrom seen l = 0 → l.Nodup ∧ (∀ x ∈ l, x ∉ seen) ∧ ∀ x ∈ l, gErr x = 0
  | seen, [], _ => ⟨List.nodup_nil, fun x hx => by simp at hx, fun x hx => by simp at hx⟩
  | seen, z :: r, h => by
    rw [glFrom] at h
    split at h
    · rename_i h1; exact absurd h h1
    · rename_i h1
      split at h
      · cases h
      · rename_i h2
        obtain ⟨h3, h4, h5⟩ := glFrom_facts (seen ++ [z]) r h
        have hz : z ∉ seen := fun hm => h2 ((Lib.containsS_iff _ _).2 hm)
        refine ⟨List.nodup_cons.2 ⟨fun hm => by have := h4 z hm; simp at this, h3⟩, fun x hx => ?_, fun x hx => ?_⟩
        · rcases List.mem_cons.1 hx with rfl | hx
          · exact hz
          · have := h4 x hx; simp at this; exact this.1
        · rcases List.mem_cons.1 hx with rfl | hx
          · simpa using h1
          · exact h5 x hx
theorem evErr_facts {m : Int} {gs ss : List ByteArray} {b : Int} (h : evErr m gs ss b = 0) : glFrom [] gs = 0 ∧ stFrom [] ss = 0 := by
  unfold evErr at h
  split at h
  · cases h
  · split at h
    · omega
    · rename_i h2
      split at h
      · cases h
      · split at h
        · omega
        · rename_i h4
          have h3 : fmtErr gs = 0 := by simpa using h2
          unfold fmtErr glErr at h3
          split at h3
          · cases h3
          · split at h3
            · cases h3
            · exact ⟨h3, by simpa using h4⟩

theorem countP_one {l : List ByteArray} (hn : l.Nodup) (name : ByteArray) : l.countP (fun x => x.toList == name.toList) = if hasL l name then 1 else 0 := by
  induction l with
  | nil => simp [hasL]
  | cons z r ih =>
    obtain ⟨h1, h2⟩ := List.nodup_cons.1 hn
    rw [List.countP_cons, ih h2]
    by_cases hz : (z.toList == name.toList) = true
    · have e := bytes_beq_true hz
      have hr : hasL r name = false := by
        rw [hasL, List.any_eq_false]
        intro x hx hxn
        exact h1 (by rw [e, ← bytes_beq_true hxn]; exact hx)
      have hc : hasL (z :: r) name = true := by simp only [hasL, List.any_cons, hz, Bool.true_or]
      rw [hr, hc]; simp [hz]
    · have hc : hasL (z :: r) name = hasL r name := by simp only [hasL, List.any_cons]; rw [Bool.not_eq_true] at hz; rw [hz, Bool.false_or]
      rw [hc]; simp [hz]
theorem countP_day (kind k : Int) (name : ByteArray) (a b d : Int) (l : List ByteArray) :
    (l.map fun x => (d, k, x)).countP (ofPred kind name a b) = if k = kind ∧ a ≤ d ∧ d ≤ b then l.countP (fun x => x.toList == name.toList) else 0 := by
  rw [List.countP_map]
  split
  · rename_i h
    obtain ⟨h1, h2, h3⟩ := h
    congr 1
    funext x
    simp [ofPred, h1, h2, h3]
  · rename_i h
    rw [List.countP_eq_zero]
    intro x _
    simp only [Function.comp, ofPred, Bool.and_eq_true, decide_eq_true_eq, beq_iff_eq]
    intro hh
    exact h ⟨hh.1, hh.2.2⟩
theorem keys_count (kind : Int) (name : ByteArray) (a b : Int) (mi : Int) (au : List UInt8) (gs ss : List ByteArray) (hk : 1 ≤ kind) :
    (keysOf mi au gs ss).countP (ofPred kind name a b) = if a ≤ mi / 1440 ∧ mi / 1440 ≤ b then (if kind = 1 then gs.countP (fun x => x.toList == name.toList) else if kind = 2 then ss.countP (fun x => x.toList == name.toList) else if kind = 3 then [auText au].countP (fun x => x.toList == name.toList) else 0) else 0 := by
  have e : keysOf mi au gs ss = [(mi / 1440, 0, ByteArray.empty)] ++ gs.map (fun g => (mi / 1440, 1, g)) ++ ss.map (fun s => (mi / 1440, 2, s)) ++ [auText au].map (fun s => (mi / 1440, 3, s)) := rfl
  have h0 : [((mi / 1440, 0, ByteArray.empty) : Key)].countP (ofPred kind name a b) = 0 := by
    rw [List.countP_eq_zero]
    intro x hx
    rw [List.mem_singleton.1 hx]
    simp only [ofPred, Bool.and_eq_true, beq_iff_eq]
    intro h; have := h.1; omega
  rw [e, List.countP_append, List.countP_append, List.countP_append, countP_day, countP_day, countP_day, h0]
  by_cases hd : a ≤ mi / 1440 ∧ mi / 1440 ≤ b
  · by_cases h1 : kind = 1
    · subst h1; simp [hd]
    · by_cases h2 : kind = 2
      · subst h2; simp [hd]
      · by_cases h3 : kind = 3
        · subst h3; simp [hd]
        · simp [hd, h1, h2, h3, Ne.symm h1, Ne.symm h2, Ne.symm h3]
  · rw [if_neg (fun h => hd h.2), if_neg (fun h => hd h.2), if_neg (fun h => hd h.2), if_neg hd]
theorem hit_count (e : Ev) (he : e.err = 0) (kind : Int) (name : ByteArray) (a b : Int) (hk : 1 ≤ kind) (hk3 : kind ≤ 3) (hn : ¬ name.toList = []) :
    (keysOf e.mi e.au e.gs e.ss).countP (ofPred kind name a b) = if e.hit kind name a b then 1 else 0 := by
  obtain ⟨hg, hs⟩ := evErr_facts he
  have hng := (glFrom_facts _ _ hg).1
  have hns := (stFrom_facts _ _ hs).1
  rw [keys_count kind name a b _ _ _ _ hk]
  have hn' : (name.toList == []) = false := by simpa using hn
  by_cases hd : a ≤ e.mi / 1440 ∧ e.mi / 1440 ≤ b
  · rw [if_pos hd, Ev.hit, hn', decide_eq_true hd.1, decide_eq_true hd.2, Bool.false_or, Bool.true_and, Bool.true_and, Ev.has, decide_eq_true hk, decide_eq_true hk3, Bool.true_and, Bool.and_true]
    have h : kind = 1 ∨ kind = 2 ∨ kind = 3 := by omega
    rcases h with rfl | rfl | rfl
    · exact countP_one hng name
    · exact countP_one hns name
    · exact countP_one (by simp) name
  · rw [if_neg hd, Ev.hit]
    have : (decide (a ≤ e.mi / 1440) && (decide (e.mi / 1440 ≤ b) && (name.toList == [] || e.has kind name))) = false := by
      rw [← Bool.and_assoc]
      have : (decide (a ≤ e.mi / 1440) && decide (e.mi / 1440 ≤ b)) = false := by
        rw [← Bool.not_eq_true, Bool.and_eq_true, decide_eq_true_eq, decide_eq_true_eq]; exact hd
      rw [this, Bool.false_and]
    rw [this]; rfl

theorem sum_adds (p : Key → Bool) (f : Cnt → Ev → Cnt) (h : ∀ e : Ev, e.err = 0 → ∀ c : Cnt, (c.1 + (((keysOf e.mi e.au e.gs e.ss).countP p : Nat) : Int), c.2 + (((keysOf e.mi e.au e.gs e.ss).countP p : Nat) : Int) * e.b) = f c e) :
    ∀ (es : List Ev) (L : List (Key × Cnt)), sumBy p (addsL L es) = (okEvs es).foldl f (sumBy p L)
  | [], L => rfl
  | e :: r, L => by
    have ih := sum_adds p f h r (addL L e.mi e.au e.gs e.ss e.b)
    rw [show addsL L (e :: r) = addsL (addL L e.mi e.au e.gs e.ss e.b) r from rfl, ih]
    by_cases he : e.err = 0
    · have h1 : okEvs (e :: r) = e :: okEvs r := by unfold okEvs; rw [List.filter_cons, if_pos (by simpa using he)]
      have hs := sumBy_bumps p e.b (keysOf e.mi e.au e.gs e.ss) L
      have h2 : sumBy p (addL L e.mi e.au e.gs e.ss e.b) = f (sumBy p L) e := by
        have he' : evErr e.mi e.gs e.ss e.b = 0 := he
        rw [addL, if_pos he', ← h e he]
        exact Prod.ext hs.1 hs.2
      rw [h1, List.foldl_cons, h2]
    · have h1 : okEvs (e :: r) = okEvs r := by unfold okEvs; rw [List.filter_cons, if_neg (by simpa using he)]
      have he' : ¬ evErr e.mi e.gs e.ss e.b = 0 := he
      rw [h1, addL, if_neg he']
theorem sum_of (es : List Ev) (kind : Int) (name : ByteArray) (a b : Int) (hk : 1 ≤ kind) (hk3 : kind ≤ 3) (hn : ¬ name.toList = []) :
    sumBy (ofPred kind name a b) (addsL [] es) = ofM (okEvs es) kind name a b := by
  refine sum_adds _ _ (fun e he c => ?_) es []
  rw [hit_count e he kind name a b hk hk3 hn, ofStep]
  split <;> simp

theorem sum_zero (p : Key → Bool) : ∀ (es : List Ev) (L : List (Key × Cnt)), (∀ e ∈ es, e.err = 0 → (keysOf e.mi e.au e.gs e.ss).countP p = 0) → sumBy p (addsL L es) = sumBy p L
  | [], L, _ => rfl
  | e :: r, L, h => by
    have ih := sum_zero p r (addL L e.mi e.au e.gs e.ss e.b) (fun x hx => h x (by simp [hx]))
    rw [show addsL L (e :: r) = addsL (addL L e.mi e.au e.gs e.ss e.b) r from rfl, ih]
    by_cases he : e.err = 0
    · have he' : evErr e.mi e.gs e.ss e.b = 0 := he
      have hs := sumBy_bumps p e.b (keysOf e.mi e.au e.gs e.ss) L
      rw [h e (by simp) he] at hs
      rw [addL, if_pos he']
      exact Prod.ext (by simpa using hs.1) (by simpa using hs.2)
    · have he' : ¬ evErr e.mi e.gs e.ss e.b = 0 := he
      rw [addL, if_neg he']
theorem nil_of_toList {x : ByteArray} (h : x.toList = []) : x = ⟨#[]⟩ := bytes_beq_true (by rw [h, ByteArray.toList_eq]; rfl)
theorem gErr_ne {x : ByteArray} (h : gErr x = 0) : ¬ x.toList = [] := fun hx => by
  rw [nil_of_toList hx] at h
  exact absurd h (by decide +kernel)
theorem siteErr_ne {x : ByteArray} (h : siteErr x = 0) : ¬ x.toList = [] := fun hx => by
  rw [nil_of_toList hx, siteErr_none rfl] at h; cases h
theorem auText_ne {au : List UInt8} (h : au.length = 16) : ¬ (auText au).toList = [] := fun hx => by
  have h2 : (auText au).size = 32 := by rw [auText, mkS_size, hexL_length, h]
  rw [nil_of_toList hx] at h2; cases h2
theorem countP_none {l : List ByteArray} {name : ByteArray} (hn : name.toList = []) (h : ∀ x ∈ l, ¬ x.toList = []) : l.countP (fun x => x.toList == name.toList) = 0 := by
  rw [List.countP_eq_zero]
  intro x hx hh
  rw [hn] at hh
  exact h x hx (by simpa using hh)
theorem keys_none (e : Ev) (he : e.err = 0) (hau : e.au.length = 16) (kind : Int) (name : ByteArray) (a b : Int) (hk0 : kind ≠ 0) (h : name.toList = [] ∨ kind < 1 ∨ 3 < kind) :
    (keysOf e.mi e.au e.gs e.ss).countP (ofPred kind name a b) = 0 := by
  obtain ⟨hg, hs⟩ := evErr_facts he
  by_cases hk : 1 ≤ kind
  · rw [keys_count kind name a b _ _ _ _ hk]
    split
    · by_cases hk3 : kind ≤ 3
      · have hn : name.toList = [] := by
          rcases h with h | h | h
          · exact h
          · omega
          · omega
        rw [countP_none hn (fun x hx => gErr_ne ((glFrom_facts _ _ hg).2.2 x hx)), countP_none hn (fun x hx => siteErr_ne ((stFrom_facts _ _ hs).2.2 x hx)), countP_none hn (fun x hx => by rw [List.mem_singleton.1 hx]; exact auText_ne hau)]
        split
        · rfl
        · split
          · rfl
          · split <;> rfl
      · rw [if_neg (by omega), if_neg (by omega), if_neg (by omega)]
    · rfl
  · rw [List.countP_eq_zero]
    intro x hx
    have hx2 : 0 ≤ x.2.1 := by
      simp only [keysOf, List.mem_append, List.mem_cons, List.mem_map, List.mem_singleton, List.mem_nil_iff, or_false] at hx
      rcases hx with (((rfl | ⟨_, _, rfl⟩) | ⟨_, _, rfl⟩) | rfl) <;> simp
    simp only [ofPred, Bool.and_eq_true, beq_iff_eq]
    intro hh
    have := hh.1
    omega

/-- what the statement wants -/
def wantM (es : List Ev) (kind : Int) (name : ByteArray) (a b : Int) : Cnt := if name.toList = [] ∨ kind < 1 ∨ 3 < kind then (0, 0) else ofM (okEvs es) kind name a b
theorem plain_of (es : List Ev) (hau : ∀ e ∈ es, e.au.length = 16) (kind : Int) (name : ByteArray) (a b : Int) :
    zeroCnt kind (sumBy (ofPred kind name a b) (addsL [] es)) = wantM es kind name a b := by
  unfold zeroCnt wantM
  by_cases h0 : kind = 0
  · rw [if_pos h0, if_pos (by omega)]
  · rw [if_neg h0]
    by_cases h : name.toList = [] ∨ kind < 1 ∨ 3 < kind
    · rw [if_pos h, sum_zero _ _ _ (fun e he hr => keys_none e hr (hau e he) kind name a b h0 h)]; rfl
    · rw [if_neg h]
      exact sum_of es kind name a b (by omega) (by omega) (fun hn => h (Or.inl hn))
end Go.Proofs.YtlemadbmlnjhpaaGreatDoor
