/- TopNames: the law returns true. -/
import Derived.Test.YtagmldkcogidgaaGreatDoorTopA
namespace Go.Proofs.YtagmldkcogidgaaGreatDoor
open Go.RowKit
set_option maxRecDepth 100000

theorem walk3 {w : World} (hT : Tab w) : Calls Tryz.prog 3 #[] w fun e w' => e = .returned (.bool true) ∧ Below w.heap.size w w' := by
  obtain ⟨w1, hw1⟩ : ∃ w1, w1 = w.alloc (.cells #[.int .i64 0, .int .i64 1, .int .i64 2, .int .i64 3, .int .i64 4, .int .i64 5, .int .i64 6, .int .i64 7, .int .i64 8, .int .i64 9, .int .i64 10] 22) := ⟨_, rfl⟩
  have hb : Below w.heap.size w w1 := hw1 ▸ (Below.refl _ w).alloc (Nat.le_refl _) _
  have hn : w1.heap[w.heap.size]? = some (.cells #[.int .i64 0, .int .i64 1, .int .i64 2, .int .i64 3, .int .i64 4, .int .i64 5, .int .i64 6, .int .i64 7, .int .i64 8, .int .i64 9, .int .i64 10] 22 (0, 0)) := hw1 ▸ heap_alloc_new _ _
  have hc : ∀ k : Nat, k < 11 → w1.cell? ⟨w.heap.size, k, none⟩ = some (.int .i64 (k : Int)) := fun k hk => by
    rw [cell_of_row _ _ _ _ _ _ hn]
    have : ∀ k, k < 11 → (#[Value.int .i64 0, .int .i64 1, .int .i64 2, .int .i64 3, .int .i64 4, .int .i64 5, .int .i64 6, .int .i64 7, .int .i64 8, .int .i64 9, .int .i64 10] : Array Value)[k]? = some (.int .i64 (k : Int)) := by
      intro k hk
      have hcs : k = 0 ∨ k = 1 ∨ k = 2 ∨ k = 3 ∨ k = 4 ∨ k = 5 ∨ k = 6 ∨ k = 7 ∨ k = 8 ∨ k = 9 ∨ k = 10 := by omega
      rcases hcs with rfl | rfl | rfl | rfl | rfl | rfl | rfl | rfl | rfl | rfl | rfl <;> rfl
    exact this k hk
  have cS := speaks_any (hT.below hT.pos hb)
  clear hT hn
  go_enter Tryz.func3, Tryz.ntmps3
  go_wp2
  rw [← hw1]
  clear hw1
  go_loop [10] (fun i => ∃ k : Nat, k ≤ 11 ∧ i = .int .i64 k) (fun i => 11 - (intOf i).toNat)
  case atStart => exact ⟨0, by omega, rfl⟩
  case round =>
    obtain ⟨k, hk, rfl⟩ := hrel
    by_cases hlt : k < 11
    · have hck := hc k hlt
      clear hc cS
      go_wp2
      go_round
      case rel => exact ⟨k + 1, by omega, by go_num⟩
      case measure => simp [intOf]; omega
    · obtain rfl : k = 11 := by omega
      clear hc
      go_wp2_with (go_at_call 4; go_must (refine cS.mono ?_); rintro e w2 ⟨rfl, hb2⟩)
      go_ret
      exact ⟨rfl, hb.trans (hb2.mono hb.size)⟩
end Go.Proofs.YtagmldkcogidgaaGreatDoor
