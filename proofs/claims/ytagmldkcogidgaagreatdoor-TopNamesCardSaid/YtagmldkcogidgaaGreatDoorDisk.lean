/- The disk's blocks as cells: what a literal of a block makes, the zero values, the disk's own struct. -/
import Derived.Test.YtagmldkcogidgaaGreatDoorPageSeal
import Derived.Great.BuildSlice
import Derived.Deep.MidRow
import Derived.Deep.WholeRow
namespace Go.Proofs.YtagmldkcogidgaaGreatDoor
open Go.RowKit Pgp
set_option maxRecDepth 100000

theorem foldl_put (off : Nat) (A : List Value) : ∀ (k : Nat) (P S T : List Value), P.length = off + k → S.length = A.length →
    (A.zipIdx k).foldl (fun (cs : Array Value) (x : Value × Nat) => cs.setIfInBounds (off + x.2) x.1) (P ++ (S ++ T)).toArray = (P ++ (A ++ T)).toArray := by
  induction A with
  | nil =>
    intro k P S T hP hS
    obtain rfl : S = [] := List.eq_nil_of_length_eq_zero hS
    rfl
  | cons x A ih =>
    intro k P S T hP hS
    cases S with
    | nil => cases hS
    | cons s S =>
      rw [List.zipIdx_cons, List.foldl_cons]
      have h1 : (P ++ (s :: S ++ T)).toArray.setIfInBounds (off + k) x = ((P ++ [x]) ++ (S ++ T)).toArray := by
        rw [List.setIfInBounds_toArray, ← hP, List.set_append_right _ _ (Nat.le_refl _)]
        simp
      rw [h1, ih (k + 1) (P ++ [x]) S T (by simp [hP]; omega) (by simpa using hS)]
      simp
theorem fold_put (off : Nat) (A : Array Value) (P S T : List Value) (hP : P.length = off) (hS : S.length = A.size) :
    A.zipIdx.foldl (fun (cs : Array Value) (x : Value × Nat) => cs.setIfInBounds (off + x.2) x.1) (P ++ (S ++ T)).toArray = (P ++ (A.toList ++ T)).toArray := by
  rw [← Array.foldl_toList, Array.toList_zipIdx]
  exact foldl_put off A.toList 0 P S T (by omega) (by simp [hS])
theorem fill_step (place : Nat → Option (Nat × Nat)) (cells : Array Value) (i : Nat) (v : Value) (rest : List (Nat × Value)) (off size : Nat) (hp : place i = some (off, size)) (h1 : v.cells.size = size) (h2 : off + size ≤ cells.size) :
    Instr.fill place cells ((i, v) :: rest) = Instr.fill place (v.cells.zipIdx.foldl (fun cs (c, j) => cs.setIfInBounds (off + j) c) cells) rest := by
  rw [Instr.fill]
  simp only [hp]
  rw [if_neg (by simp [h1]; omega)]
theorem cells_agg (A : Array Value) : (Value.agg A).cells = A := rfl

theorem info162 : (Tryz.prog.info? 162).map (fun i => (i.zero, i.size, i.bytes)) = some (some (.agg (Array.replicate 512 (.int .u8 0))), 512, 512) := by kernel_rfl
theorem info164 : (Tryz.prog.info? 164).map (fun i => (i.zero, i.size, i.bytes)) = some (some (.agg (#[.int .i64 0] ++ Array.replicate 512 (.int .u8 0))), 513, 520) := by kernel_rfl
theorem size162 : (Tryz.prog.info? 162).map (·.size) = some 512 := by kernel_rfl
theorem size164 : (Tryz.prog.info? 164).map (·.size) = some 513 := by kernel_rfl

/-- write{at: n, b: A} -/
theorem build164 (n : Int) (A : Array Value) (hA : A.size = 512) (W : World) : (Instr.build 164 #[(0, .int .i64 n), (1, .agg A)]).run Tryz.prog W = .ok (.agg (Value.int .i64 n :: A.toList).toArray) W := by
  obtain ⟨i, hi, hz, hs, _⟩ := info_parts info164
  obtain ⟨i2, hi2, _, hs2, _⟩ := info_parts info162
  obtain ⟨i3, hi3, _, hs3, _⟩ := info_parts (show (Tryz.prog.info? 3).map (fun i => (i.zero, i.size, i.bytes)) = some (some (.int .i64 0), 1, 8) by kernel_rfl)
  have hf : Instr.fill ((#[(0, 1), (1, 512)] : Array (Nat × Nat))[·]?) (#[Value.int .i64 0] ++ Array.replicate 512 (Value.int .u8 0)) [(0, .int .i64 n), (1, .agg A)] = some (Value.int .i64 n :: A.toList).toArray := by
    have e0 : (#[Value.int .i64 0] ++ Array.replicate 512 (Value.int .u8 0)) = ([] ++ ([Value.int .i64 0] ++ List.replicate 512 (Value.int .u8 0))).toArray := by simp
    have e1 := fold_put 0 #[Value.int .i64 n] [] [Value.int .i64 0] (List.replicate 512 (Value.int .u8 0)) rfl rfl
    have e2 := fold_put 1 A [Value.int .i64 n] (List.replicate 512 (Value.int .u8 0)) [] rfl (by simp [hA])
    have c1 : (Value.int .i64 n).cells = #[Value.int .i64 n] := rfl
    have h0 := fill_step ((#[(0, 1), (1, 512)] : Array (Nat × Nat))[·]?) (#[Value.int .i64 0] ++ Array.replicate 512 (Value.int .u8 0)) 0 (.int .i64 n) [(1, .agg A)] 0 1 rfl rfl (by simp)
    rw [c1, e0, e1] at h0
    have h1 := fill_step ((#[(0, 1), (1, 512)] : Array (Nat × Nat))[·]?) ([Value.int .i64 n] ++ (List.replicate 512 (Value.int .u8 0) ++ [])).toArray 1 (.agg A) [] 1 512 rfl hA (by simp)
    rw [cells_agg, e2, Instr.fill] at h1
    have hm : ([] ++ (#[Value.int .i64 n].toList ++ List.replicate 512 (Value.int .u8 0))).toArray = ([Value.int .i64 n] ++ (List.replicate 512 (Value.int .u8 0) ++ [])).toArray := by simp
    rw [e0, h0, hm, h1]
    simp
  refine run_build W 164 _ _ ?_
  unfold Program.built
  rw [hi, Tryz.underlying164]
  simp only [hz]
  have hp : List.mapM (fun f => (Tryz.prog.info? f.type).map fun i => (f.offset, i.size)) (#[(⟨"at", 3, 0, false, "", "cashbook/disk", 0⟩ : Field), ⟨"b", 162, 1, false, "", "cashbook/disk", 8⟩] : Array Field).toList = some [(0, 1), (1, 512)] := by
    simp [hi3, hi2, hs3, hs2]
  rw [hp]
  exact hf
/-- []write{X} -/
theorem buildSlice62 (X : Array Value) (hX : X.size = 513) (W : World) : (Instr.buildSlice 62 1 #[(0, .agg X)]).run Tryz.prog W = .ok (.slice (some ⟨W.heap.size, 0, none⟩) 1 1) (W.alloc (.cells X 164)) := by
  obtain ⟨i, hi, hz, hs, _⟩ := info_parts info164
  refine run_buildSlice W 62 164 1 #[(0, .agg X)] X i _ Tryz.underlying62 hi hz (by rw [hs]; omega) (by rw [hs]; omega) ?_
  have key : ∀ Y : Array Value, Y.size = 513 → Instr.fill (fun i => some (i * 513, 513)) Y [(0, .agg X)] = some X := by
    intro Y hY
    have h0 := fill_step (fun i => some (i * 513, 513)) Y 0 (.agg X) [] 0 513 rfl hX (by omega)
    have e0 : Y = ([] ++ (Y.toList ++ [])).toArray := by simp
    have e1 := fold_put 0 X [] Y.toList [] rfl (by rw [Array.length_toList, hY, hX])
    rw [← e0] at e1
    rw [h0, cells_agg, e1, Instr.fill]
    simp
  simp only [hs]
  exact key _ (by simp)
end Go.Proofs.YtagmldkcogidgaaGreatDoor
