/- What the card of this seat shares: the listed table, read as cells. -/
import Derived.Test.YtagmldkcogidgaaGreatDoorTie
import Derived.Test.YtagmldkcogidgaaGreatDoorCards
import Derived.Test.YtagmldkcogidgaaGreatDoorCrcLaws
import Derived.WalkKit
import Derived.ProofKit
import Derived.OpenShut
import Derived.ChangeOld
import Derived.Below
import Derived.Lay
import Derived.SevenTiedAt
import Derived.Lib.LaidTab
namespace Go.Proofs.YtagmldkcogidgaaGreatDoor
open Go.ChangeShapes Go.WideShapes Go.ChangeAt Go.RowKit

theorem own : ownKnob Tryz.prog.godebug = none := by kernel_rfl
theorem laidOut : laidOutB Tryz.prog = true := by kernel_rfl

theorem tab_of_laid {W : World} (h : laidMetH Tryz.prog [("cashbook/crc.halves", Rows.laid_cashbook_crc_halves)] W) : Tab W := by
  rw [MakeChecks.laidMetH_plain _ _ _ (by kernel_rfl)] at h
  have hg : Tryz.prog.globalNamed "cashbook/crc.halves" = some 0 := by kernel_rfl
  have hT := Lib.tabIs_of_head (k := .u32) (zs := [0, 274646895, 549293790, 820201905, 1098587580, 1361435347, 1640403810, 1905808397, 2197175160, 2460548119, 2722870694, 2987750089, 3280807620, 3553878443, 3811616794, 4084100981])
    hg (show (Tryz.prog.globals[0]?).map (·.type) = some 354 by kernel_rfl) Tryz.underlying354 Tryz.underlying47 (by kernel_rfl) (by kernel_rfl) h
  intro i hi
  rw [hT.cell hg i (by simpa using hi)]
  have : ∀ i, i < 16 → ([0, 274646895, 549293790, 820201905, 1098587580, 1361435347, 1640403810, 1905808397, 2197175160, 2460548119, 2722870694, 2987750089, 3280807620, 3553878443, 3811616794, 4084100981] : List Int).getD i 0 = (Crcp.ctab i : Nat) := by decide
  rw [this i hi]
end Go.Proofs.YtagmldkcogidgaaGreatDoor
