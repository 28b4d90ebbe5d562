/- disk.New, Down, Blocks, act: the disk's state as the walks hold it. -/
import Derived.Test.YtagmldkcogidgaaGreatDoorDisk
import Derived.Deep.RegionHeld3
import Derived.Deep.AppendLies
namespace Go.Proofs.YtagmldkcogidgaaGreatDoor
open Go.RowKit Pgp
set_option maxRecDepth 100000

/-- the cells of a write that waits -/
def wcells (x : Nat × List UInt8) : List Value := .int .i64 (x.1 : Int) :: x.2.map b8
/-- The disk D with the blocks S, whose bytes are L; ws wait in the row V; k writes were done. -/
structure Dk (base : Nat) (w : World) (D S : Nat) (L : List UInt8) (V : Value) (ws : List (Nat × List UInt8)) (k : Nat) : Prop where
  hd : w.heap[D]? = some (.cells #[.slice (some ⟨S, 0, none⟩) 8 8, V, .int .i64 (-1), .bool false, .int .i64 (k : Int)] 64 (0, 0))
  hs : w.heap[S]? = some (.cells (L.map b8).toArray 162 (0, 0))
  hl : L.length = 4096
  hv : w.ownsRow base 164 513 V ws.length (ws.flatMap wcells)
  lo : base ≤ D ∧ base ≤ S
  hk : k ≤ 1000
  hn : ws.length ≤ 10
  hw : ∀ x ∈ ws, x.1 < 8 ∧ x.2.length = 512
theorem Dk.ne {base : Nat} {w : World} {D S : Nat} {L : List UInt8} {V : Value} {ws : List (Nat × List UInt8)} {k : Nat} (h : Dk base w D S L V ws k) : D ≠ S := fun e => by
  have h1 := h.hd
  rw [e, h.hs] at h1
  injection h1 with h1
  injection h1 with _ h2
  exact absurd h2 (by decide)
theorem Dk.out {base : Nat} {w : World} {D S : Nat} {L : List UInt8} {V : Value} {ws : List (Nat × List UInt8)} {k : Nat} (h : Dk base w D S L V ws k) :
    w.cell? ⟨D, 0, none⟩ = some (.slice (some ⟨S, 0, none⟩) 8 8) ∧ w.cell? ⟨D, 1, none⟩ = some V ∧ w.cell? ⟨D, 2, none⟩ = some (.int .i64 (-1)) ∧ w.cell? ⟨D, 3, none⟩ = some (.bool false) ∧ w.cell? ⟨D, 4, none⟩ = some (.int .i64 (k : Int)) ∧
      ∀ j, w.frozen? ⟨D, j, none⟩ = false := by
  have h1 := h.hd
  refine ⟨?_, ?_, ?_, ?_, ?_, fun j => ?_⟩ <;> simp [World.cell?, World.frozen?, h1]
theorem Dk.lt {base : Nat} {w : World} {D S : Nat} {L : List UInt8} {V : Value} {ws : List (Nat × List UInt8)} {k : Nat} (h : Dk base w D S L V ws k) : D < w.heap.size ∧ S < w.heap.size :=
  ⟨(Array.getElem?_eq_some_iff.1 h.hd).1, (Array.getElem?_eq_some_iff.1 h.hs).1⟩
theorem Dk.below {base : Nat} {w w' : World} {D S : Nat} {L : List UInt8} {V : Value} {ws : List (Nat × List UInt8)} {k : Nat} (h : Dk base w D S L V ws k) (hb : Below w.heap.size w w') : Dk base w' D S L V ws k :=
  { h with hd := (hb.block D h.lt.1).trans h.hd, hs := (hb.block S h.lt.2).trans h.hs, hv := World.ownsRow.kept h.hv (row := none) ⟨hb.os, hb.tape, hb.output, hb.size, fun k hk _ => hb.block k hk⟩ (by cases V.ownBlock <;> simp) }

theorem made_rep (v : Value) (m n : Nat) (h : 0 < m) : madeCells (Array.replicate m v) n = Array.replicate n v := by
  apply Array.ext
  · simp [size_madeCells]
  · intro j h1 h2
    simp [madeCells, Nat.mod_lt _ h]
theorem zmap (n : Nat) : ((Z n).map b8).toArray = Array.replicate n (.int .u8 0) := by simp [Z, b8]

/-- disk.New(8) -/
theorem new_any (w : World) : Calls Tryz.prog 7 #[.int .i64 8] w fun e w' => ∃ D S, e = .returned (.tuple #[.pointer (some ⟨D, 0, none⟩), .int .i64 0]) ∧ Dk w.heap.size w' D S (Z 4096) (.slice none 0 0) [] 0 ∧ Below w.heap.size w w' := by
  obtain ⟨i, hi, hz, hs, hby⟩ := info_parts info162
  have hmk := run_make (P := Tryz.prog) w 61 162 i _ Tryz.underlying61 hi hz .i64 .i64 8 8 (by decide) (by decide) (by rw [hby]; decide) (by decide)
  have hcells : madeCells (Value.agg (Array.replicate 512 (.int .u8 0))).cells ((8 : Int).toNat * i.size) = ((Z 4096).map b8).toArray := by
    rw [hs, cells_agg, made_rep _ _ _ (by decide), zmap]
    rfl
  rw [hcells] at hmk
  clear hcells hi hz hs hby
  generalize hC : ((Z 4096).map b8).toArray = C at *
  go_enter Tryz.func7, Tryz.ntmps7
  go_wp2
  go_ret2
  have e0 : (w.alloc (.cells C 162)).heap.size = w.heap.size + 1 := by simp
  refine ⟨w.heap.size + 1, w.heap.size, ?_, ?_, ?_⟩
  · simp
  · refine { hd := ?_, hs := ?_, hl := by simp [Z], hv := World.ownsRow_nil _ _ _ _, lo := ⟨by omega, Nat.le_refl _⟩, hk := by decide, hn := by simp, hw := fun x hx => by cases hx }
    · have := heap_alloc_new (w.alloc (.cells C 162)) (.cells #[.slice (some ⟨w.heap.size, 0, none⟩) 8 8, .slice none 0 0, .int .i64 (-1), .bool false, .int .i64 0] 64)
      rw [e0] at this
      simpa using this
    · rw [hC, Below.heap_alloc _ _ _ (by rw [e0]; omega), heap_alloc_new]
  · exact ((Below.refl _ _).alloc (Nat.le_refl _) _).alloc (by simp) _

/-- (*Disk).Down -/
theorem down_any {base : Nat} {w : World} {D S : Nat} {L : List UInt8} {V : Value} {ws : List (Nat × List UInt8)} {k : Nat} (h : Dk base w D S L V ws k) :
    Calls Tryz.prog 10 #[.pointer (some ⟨D, 0, none⟩)] w fun e w' => e = .returned (.bool false) ∧ w = w' := by
  obtain ⟨c0, c1, c2, c3, c4, fr⟩ := h.out
  clear h
  go_enter Tryz.func10, Tryz.ntmps10
  go_wp2
  go_ret
  exact ⟨rfl, rfl⟩
/-- (*Disk).Blocks -/
theorem blocks_any {base : Nat} {w : World} {D S : Nat} {L : List UInt8} {V : Value} {ws : List (Nat × List UInt8)} {k : Nat} (h : Dk base w D S L V ws k) :
    Calls Tryz.prog 33 #[.pointer (some ⟨D, 0, none⟩)] w fun e w' => e = .returned (.int .i64 8) ∧ w = w' := by
  obtain ⟨c0, c1, c2, c3, c4, fr⟩ := h.out
  clear h
  go_enter Tryz.func33, Tryz.ntmps33
  go_wp2
  go_ret
  exact ⟨rfl, rfl⟩
/-- (*Disk).act: no fuse -/
theorem act_any {base : Nat} {w : World} {D S : Nat} {L : List UInt8} {V : Value} {ws : List (Nat × List UInt8)} {k : Nat} (h : Dk base w D S L V ws k) :
    Calls Tryz.prog 74 #[.pointer (some ⟨D, 0, none⟩)] w fun e w' => e = .returned (.bool false) ∧ w = w' := by
  obtain ⟨c0, c1, c2, c3, c4, fr⟩ := h.out
  clear h
  go_enter Tryz.func74, Tryz.ntmps74
  go_wp2
  go_ret
  exact ⟨rfl, rfl⟩
end Go.Proofs.YtagmldkcogidgaaGreatDoor
