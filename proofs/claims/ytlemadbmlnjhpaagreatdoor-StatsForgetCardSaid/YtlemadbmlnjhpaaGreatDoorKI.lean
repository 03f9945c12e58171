/- Sizes, known. -/
import Derived.Test.YtlemadbmlnjhpaaGreatDoorKH
import Derived.Lib.QuietBelow
namespace Go.Proofs.YtlemadbmlnjhpaaGreatDoor
open Go Go.RowKit Go.Proofs
open Go.Sort (grow)
set_option linter.unusedSimpArgs false
set_option linter.unusedVariables false

def auOne : List UInt8 := [0, 0, 0, 0, 0, 0, 0, 0, 0, 0, 0, 0, 0, 0, 0, 1]
def sA : ByteArray := ⟨#[97]⟩
def sB : ByteArray := ⟨#[98]⟩
def sX : ByteArray := ⟨#[120]⟩
def sY : ByteArray := ⟨#[121]⟩
theorem known_err : evErr 0 [sA, sB] [sX, sY] 300 = 0 := by decide +kernel
def knownL : List (Key × Cnt) := addL [] 0 auOne [sA, sB] [sX, sY] 300
theorem addL_ok {L : List (Key × Cnt)} {mi : Int} {au : List UInt8} {gs ss : List ByteArray} {b : Int} (h : evErr mi gs ss b = 0) : addL L mi au gs ss b = bumps L (keysOf mi au gs ss) b := by rw [addL, if_pos h]
theorem knownL_eq : knownL = bumps [] (keysOf 0 auOne [sA, sB] [sX, sY]) 300 := addL_ok known_err
theorem knownL_sum (p : Key → Bool) (h1 : (keysOf 0 auOne [sA, sB] [sX, sY]).countP p = 1) : sumBy p knownL = (1, 300) := by
  have h := sumBy_bumps p 300 (keysOf 0 auOne [sA, sB] [sX, sY]) []
  rw [← knownL_eq, h1] at h
  exact Prod.ext (by simpa [sumBy] using h.1) (by simpa [sumBy] using h.2)
theorem known_total : sumBy isWhole knownL = (1, 300) := knownL_sum _ (by decide +kernel)
theorem known_grp : sumBy (ofPred 1 sB 0 0) knownL = (1, 300) := knownL_sum _ (by decide +kernel)
theorem known_site : sumBy (ofPred 2 sX 0 0) knownL = (1, 300) := knownL_sum _ (by decide +kernel)
theorem known_auth : sumBy (ofPred 3 (auText auOne) 0 0) knownL = (1, 300) := knownL_sum _ (by decide +kernel)
theorem known_size : (addZ noSizes 0 [sA, sB] [sX, sY] 300) = [0, 0, 0, 0, 0, 0, 0, 0, 0, 1, 0, 0, 0, 0, 0, 0, 0, 0] := by decide +kernel
theorem below_setCellsK {B b : Nat} (hb : B ≤ b) : ∀ (vs : List Value) (o : Nat) {a w : World}, Below B a w → Below B a (w.setCells b o vs)
  | [], _, _, _, h => h
  | v :: r, o, a, w, h => by
    rw [World.setCells]
    exact below_setCellsK hb r (o + 1) (h.setCell (by simpa using hb) _)
theorem results_cell_load {P : Program} {fn : Func} {p : Tmp} {ty : TypeId} (h : fn.results = #[.cell p ty]) (tmps : Array Value) (w : World) (g : Nat) (v : Value)
    (hp : tmps.getD p undef = .pointer (some ⟨g, 0, none⟩)) (hl : (loadVar ty ⟨g, 0, none⟩).run P w = .ok v w) : (results fn tmps).run P w = .ok v w := by
  have hp' : tmps[p]?.getD undef = .pointer (some ⟨g, 0, none⟩) := by simpa using hp
  simp [results, h, hp', asAddr, hl]
theorem Tryz.sizeArr : (Tryz.prog.info? 41).map (·.size) = some 18 := by kernel_rfl

set_option maxRecDepth 100000 in
set_option maxHeartbeats 3200000 in
theorem sizes_any (sb m : Nat) (L : List (Key × Cnt)) (zs : List Int) (w : World) (h : StatsAt w sb m L zs) :
    Calls Tryz.prog 16 #[.pointer (some ⟨sb, 0, none⟩)] w fun e w' => e = .returned (.agg (zs.map (Value.int .i64)).toArray) ∧ Below w.heap.size w w' := by
  obtain ⟨W, hW⟩ : ∃ W, W = w.alloc (.cells #[.int .i64 0, .int .i64 0, .int .i64 0, .int .i64 0, .int .i64 0, .int .i64 0, .int .i64 0, .int .i64 0, .int .i64 0, .int .i64 0, .int .i64 0, .int .i64 0, .int .i64 0, .int .i64 0, .int .i64 0, .int .i64 0, .int .i64 0, .int .i64 0] 41) := ⟨_, rfl⟩
  have hb : Below w.heap.size w W := by rw [hW]; exact (Below.refl _ w).alloc (Nat.le_refl _) _
  have hs := h.below hb
  have hlen : (zs.map (Value.int .i64)).length = 18 := by simpa using hs.2.1
  have hrow : W.rangeAt sb 1 (zs.map (Value.int .i64)) := fun j v hj => by
    rw [cell_of_row _ _ _ _ _ _ hs.1, List.getElem?_toArray, Nat.add_comm, List.getElem?_cons_succ]; exact hj
  have hth : W.there w.heap.size 0 (zs.map (Value.int .i64)).toArray.size := by
    intro j hj
    rw [List.size_toArray, hlen] at hj
    have hnew := heap_alloc_new w (.cells #[.int .i64 0, .int .i64 0, .int .i64 0, .int .i64 0, .int .i64 0, .int .i64 0, .int .i64 0, .int .i64 0, .int .i64 0, .int .i64 0, .int .i64 0, .int .i64 0, .int .i64 0, .int .i64 0, .int .i64 0, .int .i64 0, .int .i64 0, .int .i64 0] 41)
    rw [← hW] at hnew
    refine ⟨?_, frozen_of_row _ _ _ _ _ hnew⟩
    rw [cell_of_row _ _ _ _ _ _ hnew, Nat.zero_add, Array.getElem?_eq_getElem (by simpa using hj)]; rfl
  have hone : (zs.map (Value.int .i64)).toArray.all (·.oneCell') = true := all_oneCell_toArray fun v hv => by
    obtain ⟨x, _, rfl⟩ := List.mem_map.1 hv; rfl
  have hs1 : (Tryz.prog.info? 41).map (·.size) = some (zs.map (Value.int .i64)).length := by rw [hlen]; exact Tryz.sizeArr
  have hs2 : (Tryz.prog.info? 41).map (·.size) = some (zs.map (Value.int .i64)).toArray.size := by rw [List.size_toArray, hlen]; exact Tryz.sizeArr
  have hres : (loadVar 41 ⟨w.heap.size, 0, none⟩).run Tryz.prog (W.setCells w.heap.size 0 (zs.map (Value.int .i64)).toArray.toList) = .ok (.agg (zs.map (Value.int .i64)).toArray) (W.setCells w.heap.size 0 (zs.map (Value.int .i64)).toArray.toList) :=
    run_loadVar_mid _ _ _ _ _ _ (by rw [List.toList_toArray]; exact World.rangeAt_setCells_same W w.heap.size 0 _ (by simpa using hth)) Tryz.underlying41 rfl hs1
  have hbf : Below w.heap.size w (W.setCells w.heap.size 0 (zs.map (Value.int .i64)).toArray.toList) := below_setCellsK (Nat.le_refl _) _ _ hb
  clear h hs hlen hb
  have hrow' := Lib.hid hrow
  have hth' := Lib.hid hth
  have hone' := Lib.hid hone
  have hs1' := Lib.hid hs1
  have hs2' := Lib.hid hs2
  have hres' := Lib.hid hres
  have hbf' := Lib.hid hbf
  clear hrow hth hone hs1 hs2 hres hbf
  obtain ⟨cs, hcs⟩ : ∃ cs, cs = zs.map (Value.int .i64) := ⟨_, rfl⟩
  rw [← hcs] at hrow' hth' hone' hs1' hs2' hres' hbf'
  rw [← hcs]
  clear hcs
  rw [hW] at hrow' hth' hres' hbf'
  clear hW
  go_enter Tryz.func16, Tryz.ntmps16
  go_wp2_with (first | (refine wpList_load_mid rfl 41 _ rfl sb 1 rfl _ _ hrow'.out Tryz.underlying41 rfl hs1'.out ?_) | (refine wpList_store_mid rfl 41 _ _ rfl w.heap.size 0 _ rfl rfl hth'.out hs2'.out hone'.out ?_))
  exact bodyPost_ret (v := .agg cs.toArray) (results_cell_load Tryz.results16 _ _ _ _ rfl hres'.out) rfl ⟨rfl, hbf'.out⟩
end Go.Proofs.YtlemadbmlnjhpaaGreatDoor
