/- server.Format, server.Open, store.New; wire of a Pulse. -/
import Derived.Test.YtagmldkcogidgaaGreatDoorPagH
namespace Go.Proofs.YtagmldkcogidgaaGreatDoor
open Go.RowKit Pgp
set_option maxRecDepth 100000

theorem sformat_any {base : Nat} {w : World} {D S : Nat} (h : Dk base w D S (Z 4096) (.slice none 0 0) [] 0) (hT : Tab w) (hb0 : 0 < base) (hb : base ≤ w.heap.size) :
    Calls Tryz.prog 8 #[.pointer (some ⟨D, 0, none⟩)] w fun e w' => e = .returned (.int .i64 0) ∧ Dk base w' D S disk0 (.slice none 0 0) [] 4 ∧ Fz D S none w w' := by
  have cF := format_any h hT hb0 hb
  clear h hT
  go_enter Tryz.func8, Tryz.ntmps8
  go_wp2_with (go_at_call 14; go_must (refine cF.mono ?_); rintro e w1 ⟨rfl, h1, h2⟩)
  go_ret
  exact ⟨rfl, h1, h2⟩
theorem snew_any (p : Nat) (w : World) : Calls Tryz.prog 16 #[.pointer (some ⟨p, 0, none⟩)] w fun e w' => e = .returned (.pointer (some ⟨w.heap.size, 0, none⟩)) ∧ w' = w.alloc (.cells #[.pointer (some ⟨p, 0, none⟩)] 114) := by
  go_enter Tryz.func16, Tryz.ntmps16
  go_wp2
  go_ret
  exact ⟨rfl, rfl⟩
/-- The server sv on the disk D, with the pager p and the store st. -/
structure Sv (w : World) (sv D p st : Nat) : Prop where
  hv : w.heap[sv]? = some (.cells #[.pointer (some ⟨D, 0, none⟩), .pointer (some ⟨p, 0, none⟩), .pointer (some ⟨st, 0, none⟩), .bool false] 41 (0, 0))
  ht : w.heap[st]? = some (.cells #[.pointer (some ⟨p, 0, none⟩)] 114 (0, 0))
  hp : ∃ VL VN b1 b2 m, Pg w p D VL VN 1 (WKof b1 b2 m)
theorem sopen_any {base : Nat} {w : World} {D S k : Nat} (h : Dk base w D S disk0 (.slice none 0 0) [] k) (hT : Tab w) (hb : base ≤ w.heap.size) :
    Calls Tryz.prog 9 #[.pointer (some ⟨D, 0, none⟩)] w fun e w' => ∃ sv p st, e = .returned (.tuple #[.pointer (some ⟨sv, 0, none⟩), .int .i64 0]) ∧ Sv w' sv D p st ∧ Below w.heap.size w w' := by
  have cO := popen_any h hT hb
  clear h hT
  go_enter Tryz.func9, Tryz.ntmps9
  go_upto_region 4 with (go_at_call 15; go_must (refine cO.mono ?_); rintro e w1 ⟨p, rfl, hp, hlp, hb1⟩)
  have cN := snew_any p w1
  clear cO
  go_wp2_with (go_at_call 16; go_must (refine cN.mono ?_); rintro e w2 ⟨rfl, rfl⟩)
  go_returns
  have e1 : (w1.alloc (.cells #[.pointer (some ⟨p, 0, none⟩)] 114)).heap.size = w1.heap.size + 1 := by simp
  have hb2 : Below w1.heap.size w1 ((w1.alloc (.cells #[.pointer (some ⟨p, 0, none⟩)] 114)).alloc (.cells #[.pointer (some ⟨D, 0, none⟩), .pointer (some ⟨p, 0, none⟩), .pointer (some ⟨w1.heap.size, 0, none⟩), .bool false] 41)) :=
    ((Below.refl _ w1).alloc (Nat.le_refl _) _).alloc (by simp) _
  refine ⟨w1.heap.size + 1, p, w1.heap.size, by simp, { hv := ?_, ht := ?_, hp := ?_ }, hb1.trans (hb2.mono hb1.size)⟩
  · have := heap_alloc_new (w1.alloc (.cells #[.pointer (some ⟨p, 0, none⟩)] 114)) (.cells #[.pointer (some ⟨D, 0, none⟩), .pointer (some ⟨p, 0, none⟩), .pointer (some ⟨w1.heap.size, 0, none⟩), .bool false] 41)
    rw [e1] at this
    exact this
  · exact (Below.heap_alloc _ _ _ (by rw [e1]; omega)).trans (heap_alloc_new w1 _)
  · obtain ⟨VL, VN, b1, b2, m, hp⟩ := hp
    exact ⟨VL, VN, b1, b2, m, hp.block (hb2.block p hp.lt)⟩
end Go.Proofs.YtagmldkcogidgaaGreatDoor
