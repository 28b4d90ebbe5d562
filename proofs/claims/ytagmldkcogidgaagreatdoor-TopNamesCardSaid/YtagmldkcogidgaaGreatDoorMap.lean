/- A set of numbers of pages: map[uint32]int, every element 1. -/
import Derived.Test.YtagmldkcogidgaaGreatDoorHeld
import Derived.RangeFuncBox
import Derived.RangeFuncNested
namespace Go.Proofs.YtagmldkcogidgaaGreatDoor
open Go.RowKit
set_option maxRecDepth 100000

def ments (ks : List Nat) : List MapEntry := ks.zipIdx.map fun x => { key := .int .u32 (x.1 : Int), val := .int .i64 1, born := x.2 }
def MapIs (w : World) (M : Nat) (ks : List Nat) : Prop := w.heap[M]? = some (.map (ments ks).toArray ks.length)
theorem MapIs.lt {w : World} {M : Nat} {ks : List Nat} (h : MapIs w M ks) : M < w.heap.size := (Array.getElem?_eq_some_iff.1 h).1
theorem MapIs.block {w w' : World} {M : Nat} {ks : List Nat} (h : MapIs w M ks) (hb : w'.heap[M]? = w.heap[M]?) : MapIs w' M ks := hb.trans h
theorem findNow_in (n : Nat) (ks : List Nat) : ∀ i k, ∃ j, Instr.findNow (.int .u32) (.int .u32 (n : Int)) ((ks.zipIdx k).map fun x => { key := .int .u32 (x.1 : Int), val := .int .i64 1, born := x.2 }) i =
    some (if n ∈ ks then some (j, .int .i64 1) else none) := by
  induction ks with
  | nil => intro i k; exact ⟨0, rfl⟩
  | cons x r ih =>
    intro i k
    by_cases h : n = x
    · subst h
      exact ⟨i, by rw [List.zipIdx_cons, List.map_cons, Instr.findNow]; simp [Instr.sameNow]⟩
    · obtain ⟨j, hj⟩ := ih (i + 1) (k + 1)
      have h2 : ((n : Int) == (x : Int)) = false := beq_eq_false_iff_ne.2 (by omega)
      refine ⟨j, ?_⟩
      rw [List.zipIdx_cons, List.map_cons, Instr.findNow]
      simp only [Instr.sameNow, if_true, h2, hj]
      by_cases hm : n ∈ r
      · rw [if_pos hm, if_pos (List.mem_cons_of_mem _ hm)]
      · rw [if_neg hm, if_neg (fun h' => (List.mem_cons.1 h').elim h hm)]
theorem key_ok (b : Bool) (n : Nat) (w : World) : (Instr.checkKey b 10000 47 (.int .u32 (n : Int))).run Tryz.prog w = .ok () w := by
  rw [show (10000 : Nat) = 9999 + 1 from rfl, Instr.checkKey]
  simp [run_underlying Tryz.underlying47]
theorem map_look {w : World} {M : Nat} {ks : List Nat} (h : MapIs w M ks) (n : Nat) : (Instr.lookup 172 (.map (some M)) (.int .u32 (n : Int)) false).run Tryz.prog w = .ok (.int .i64 (if n ∈ ks then 1 else 0)) w := by
  obtain ⟨j, hj⟩ := findNow_in n ks 0 0
  obtain ⟨i3, hi3, hz3, _⟩ := info_parts (show (Tryz.prog.info? 3).map (fun i => (i.zero, i.size, i.bytes)) = some (some (.int .i64 0), 1, 8) by kernel_rfl)
  have hz : (zeroValue 3).run Tryz.prog w = .ok (.int .i64 0) w := by simp [zeroValue, typeInfo, hi3, hz3]
  have hg : (getObj M).run Tryz.prog w = .ok (.map (ments ks).toArray ks.length) w := by
    have := h
    unfold MapIs at this
    simp [getObj, Sem.run, this]
  unfold Instr.lookup
  simp only [Sem.run_bind, run_underlying Tryz.underlying172, Result.andThen_ok, hg, Sem.run_pure, key_ok]
  have hf : (Instr.findKey 47 (.int .u32 (n : Int)) (ments ks)).run Tryz.prog w = .ok (if n ∈ ks then some (j, .int .i64 1) else none) w := by
    unfold Instr.findKey ments
    simp only [Sem.run_bind, run_underlying Tryz.underlying47, Result.andThen_ok, hj, Sem.run_pure]
  rw [hf]
  by_cases hm : n ∈ ks
  · simp [hm]
  · simp [hm, hz]
theorem run_setObj_map' {P : Program} {w : World} {r : Nat} {ks : List Nat} (o : Obj) (h : MapIs w r ks) : (setObj r o).run P w = .ok () (w.putObj r o) := by
  unfold MapIs at h
  simp [setObj, Sem.run, h, World.putObj]
theorem map_put {w : World} {M : Nat} {ks : List Nat} (h : MapIs w M ks) (n : Nat) (hn : n ∉ ks) : ∃ w', (Instr.mapUpdate 172 (.map (some M)) (.int .u32 (n : Int)) (.int .i64 1)).run Tryz.prog w = .ok () w' ∧ MapIs w' M (ks ++ [n]) ∧ w.grownBy w' (some M) := by
  obtain ⟨j, hj⟩ := findNow_in n ks 0 0
  rw [if_neg hn] at hj
  have hg : (getObj M).run Tryz.prog w = .ok (.map (ments ks).toArray ks.length) w := by
    have := h
    unfold MapIs at this
    simp [getObj, Sem.run, this]
  have hf : (Instr.findKey 47 (.int .u32 (n : Int)) (ments ks)).run Tryz.prog w = .ok none w := by
    unfold Instr.findKey ments
    simp only [Sem.run_bind, run_underlying Tryz.underlying47, Result.andThen_ok, hj, Sem.run_pure]
  refine ⟨w.putObj M (.map ((ments ks).toArray.push { key := .int .u32 (n : Int), val := .int .i64 1, born := ks.length }) (ks.length + 1)), ?_, ?_, grownBy_putObj' w M _⟩
  · unfold Instr.mapUpdate
    simp only [Sem.run_bind, run_underlying Tryz.underlying172, Result.andThen_ok, hg, key_ok, hf]
    have hso := fun o => run_setObj_map' (P := Tryz.prog) o h
    simp [hso, World.putObj]
  · unfold MapIs
    rw [World.putObj_heap_same h.lt]
    have e : ments (ks ++ [n]) = ments ks ++ [{ key := .int .u32 (n : Int), val := .int .i64 1, born := ks.length }] := by
      unfold ments
      rw [List.zipIdx_append, List.map_append]
      simp
    rw [e, List.length_append]
    simp
end Go.Proofs.YtagmldkcogidgaaGreatDoor
