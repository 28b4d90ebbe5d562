/- The closed facts of the card, each asked of the kernel by itself. -/
import Derived.Test.YtagmldkcogidgaaGreatDoorFacts
import Derived.SevenTiedAt
namespace Go.Proofs.YtagmldkcogidgaaGreatDoor
open Go
set_option maxRecDepth 100000
set_option maxHeartbeats 4000000

theorem cardF1 : Rows.topNamesRow.wfByText (OpenSpec.ofChange Rows.topNamesSpec) = true := by kernel_rfl
theorem cardF2 : Tryz.prog.mainIs = some (true, "92375bc33ec6cdd019f936fe3d952fa7b48b982ce32083b3227fdc4131c90758".toList) := by kernel_rfl
theorem cardF3 : Tryz.prog.looks [] = true := by kernel_rfl
theorem cardF4 : Rows.topNamesRow.goesBy Tryz.prog = false := by kernel_rfl
end Go.Proofs.YtagmldkcogidgaaGreatDoor
