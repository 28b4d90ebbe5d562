/- CrcLine: whatever the three rows of bytes, the law returns true. No condition beyond the row's own. -/
import Derived.Test.YtagmldkcogidgaaGreatDoorCrcLaws
import Derived.OwnWalk
import Derived.WalkLawsBesides
import Derived.Deep.DeepCutAuto
namespace Go.Proofs.YtagmldkcogidgaaGreatDoor
set_option maxRecDepth 100000
open Go.RowKit Go.Sort
open Crcp (cmore)

theorem make_zero (w : World) (base n : Nat) (hn : n ≤ 281474976710656) (hbase : base ≤ w.heap.size) :
    ∃ w', (Instr.makeSlice 29 (.int .i64 (n : Int)) (.int .i64 (n : Int))).run Tryz.prog w = .ok (.slice (some ⟨w.heap.size, 0, none⟩) n n) w' ∧
      Own w' base (.slice (some ⟨w.heap.size, 0, none⟩) n n) ⟨(List.replicate n (0 : UInt8)).toArray⟩ ∧ w.grownBy w' none := by
  obtain ⟨i0, hi, hz0, hz1, hz2⟩ := info_parts info5
  obtain ⟨w', h1, h2, h3⟩ := run_make_full (P := Tryz.prog) w base 29 5 i0 (.int .u8 0) 1 Tryz.underlying29 hi hz0 hz1 .i64 .i64 n (by rw [hz2]; omega) (by unfold maxLen; omega) hbase
  refine ⟨w', h1, ?_, h3⟩
  have hc : (madeCells (Value.int .u8 0).cells (n * 1)).toList = (bcells ⟨(List.replicate n (0 : UInt8)).toArray⟩).toList := by
    rw [Nat.mul_one, show (Value.int .u8 0).cells = #[.int .u8 0] from rfl, toList_madeCells_one]
    simp [bcells]
  unfold Own
  rw [← hc]
  simpa [ByteArray.size] using h2

/-- The first n bytes of a slice. -/
def pre (s : ByteArray) (n : Nat) : ByteArray := ⟨(s.data.toList.take n).toArray⟩
theorem pre_size (s : ByteArray) (n : Nat) (h : n ≤ s.size) : (pre s n).size = n := by
  show (s.data.toList.take n).toArray.size = n
  rw [List.size_toArray, List.length_take, lenBA]; omega
theorem Rd.pre {w : World} {A : Option Addr} {s : ByteArray} (h : Rd w A s) (n : Nat) (hn : n ≤ s.size) : Rd w A (pre s n) := fun h0 => by
  rw [pre_size s n hn] at h0
  obtain ⟨b, o, e, hlt, hc⟩ := h (by omega)
  refine ⟨b, o, e, hlt, fun i hi => ?_⟩
  have hi' : i < n := by rw [pre_size s n hn] at hi; exact hi
  rw [hc i (by omega)]
  have : (YtagmldkcogidgaaGreatDoor.pre s n)[i] = s[i] := by
    have h1 : (YtagmldkcogidgaaGreatDoor.pre s n).data.toList[i]? = some (YtagmldkcogidgaaGreatDoor.pre s n)[i] := by
      rw [List.getElem?_eq_getElem (by rw [lenBA]; exact hi)]; rfl
    have h2 : s.data.toList[i]? = some (s[i]'(by omega)) := by
      rw [List.getElem?_eq_getElem (by rw [lenBA]; omega)]; rfl
    have h3 : (YtagmldkcogidgaaGreatDoor.pre s n).data.toList = s.data.toList.take n := by simp [YtagmldkcogidgaaGreatDoor.pre]
    rw [h3, List.getElem?_take_of_lt hi', h2] at h1
    exact (Option.some.inj h1).symm
  rw [this]
theorem Rd.at_ {w : World} {b o : Nat} {s : ByteArray} (h : Rd w (some ⟨b, o, none⟩) s) (i : Nat) (hi : i < s.size) : w.cell? ⟨b, o + i, none⟩ = some (.int .u8 ((s.data.toList.getD i 0).toNat : Nat)) := by
  obtain ⟨b', o', e, _, hc⟩ := h (by omega)
  injection e with e
  injection e with e1 e2
  subst e1 e2
  rw [hc i hi]
  have : s.data.toList.getD i 0 = s[i] := by
    rw [List.getD, List.getElem?_eq_getElem (by rw [lenBA]; exact hi)]; rfl
  rw [this]

theorem slice_pre (A : Option Addr) (n c k : Nat) (hk : k ≤ c) (W : World) : (Instr.slice 29 (.slice A n c) none (some (.int .i64 (k : Int))) none).run Tryz.prog W = .ok (.slice A k c) W := by
  have ht : Tryz.prog.underlying 29 = some (.slice (Tryz.prog.elem 29)) := by kernel_rfl
  have he : Tryz.prog.elem 29 = 5 := by kernel_rfl
  obtain ⟨i0, hi, hz0, hz1, hz2⟩ := info_parts info5
  rw [run_slice_h W 29 A n c ht .i64 (k : Int) (by omega) (by omega), he]
  have hs : (Go.sizeOf 5).run Tryz.prog W = .ok 1 W := by simp [Go.sizeOf, typeInfo, hi, hz1]
  rw [hs]
  have : ∀ a : Addr, a.add 0 = a := fun a => by simp [Addr.add]
  cases A <;> simp [Result.andThen, sliced, this]

end Go.Proofs.YtagmldkcogidgaaGreatDoor
