/- The closed facts of the row, each asked of the kernel by itself. -/
import Derived.Test.YtagmldkcogidgaaGreatDoorRows
import Derived.JoinedOf
import Derived.KernelRfl
namespace Go.Proofs.YtagmldkcogidgaaGreatDoor
open Go
set_option maxRecDepth 100000
set_option maxHeartbeats 4000000

theorem and_both {a b : Bool} (h : a = true) (k : b = true) : (a && b) = true := by rw [h, k]; rfl
theorem topNamesFactsF0 : (fun (s : ChangeSpec) (c : OpenClaim) => (c.wf (OpenSpec.ofChange s) : Bool)) Rows.topNamesSpec Rows.topNamesRow = true := by kernel_rfl
theorem topNamesFactsF1 : (fun (P : Program) => (laidOutB P : Bool)) Tryz.prog = true := by kernel_rfl
theorem topNamesFactsF2 : (fun (P : Program) => (mapsRowed P : Bool)) Tryz.prog = true := by kernel_rfl
theorem topNamesFactsF3 : (fun (P : Program) (fn : Func) => (fn.params.all (P.readableRec ·) : Bool)) Tryz.prog Tryz.f3 = true := by kernel_rfl
theorem topNamesFactsF4 : (fun (P : Program) (s : ChangeSpec) (c : OpenClaim) => (namedTie P c.named s.vars : Bool)) Tryz.prog Rows.topNamesSpec Rows.topNamesRow = true := by kernel_rfl
theorem topNamesFactsF5 : (fun (c : OpenClaim) => ((c.stops == []) : Bool)) Rows.topNamesRow = true := by kernel_rfl
theorem topNamesFactsF6 : (fun (P : Program) => ((P.stops == []) : Bool)) Tryz.prog = true := by kernel_rfl
theorem topNamesFactsF7 : (fun (c : OpenClaim) => ((c.knobs == []) : Bool)) Rows.topNamesRow = true := by kernel_rfl
theorem topNamesFactsF8 : (fun (P : Program) => ((P.stopKnobs == []) : Bool)) Tryz.prog = true := by kernel_rfl
theorem topNamesFactsF9 : (fun (P : Program) (f : FuncId) (c : OpenClaim) => ((c.inPlace == P.inPlace f) : Bool)) Tryz.prog 3 Rows.topNamesRow = true := by kernel_rfl
theorem topNamesFactsF10 : (fun (P : Program) (f : FuncId) (c : OpenClaim) => ((c.unfollowed == P.unfollowed f) : Bool)) Tryz.prog 3 Rows.topNamesRow = true := by kernel_rfl
theorem topNamesFactsF11 : (fun (P : Program) (f : FuncId) (c : OpenClaim) => ((c.recurses == P.recurses f) : Bool)) Tryz.prog 3 Rows.topNamesRow = true := by kernel_rfl
theorem topNamesFactsF12 : (fun (P : Program) (f : FuncId) (c : OpenClaim) => ((c.named == P.varsNamed f) : Bool)) Tryz.prog 3 Rows.topNamesRow = true := by kernel_rfl
theorem topNamesFactsF13 : (fun (P : Program) (fn : Func) (s : ChangeSpec) (c : OpenClaim) => ((c.maps == (fn.params.toList ++ s.plain.varTypes P).any (P.mapsRec ·)) : Bool)) Tryz.prog Tryz.f3 Rows.topNamesSpec Rows.topNamesRow = true := by kernel_rfl
theorem topNamesFactsF14 : (fun (P : Program) (fn : Func) (s : ChangeSpec) (c : OpenClaim) => ((c.ifaces == (fn.params.toList ++ s.plain.varTypes P).any (P.ifacesRec ·)) : Bool)) Tryz.prog Tryz.f3 Rows.topNamesSpec Rows.topNamesRow = true := by kernel_rfl
theorem topNamesFactsF15 : (fun (P : Program) (fn : Func) (c : OpenClaim) => ((c.mapsOut == P.mapsAmong fn.resultTypes.toList) : Bool)) Tryz.prog Tryz.f3 Rows.topNamesRow = true := by kernel_rfl
theorem topNamesFactsF16 : (fun (P : Program) (fn : Func) (s : ChangeSpec) (c : OpenClaim) => ((c.loops == (fn.params.toList ++ s.plain.varTypes P).any (P.loopsFrom ·)) : Bool)) Tryz.prog Tryz.f3 Rows.topNamesSpec Rows.topNamesRow = true := by kernel_rfl
theorem topNamesFactsF17 : (fun (P : Program) (fn : Func) (s : ChangeSpec) (c : OpenClaim) => ((c.wideKeys == (fn.params.toList ++ s.plain.varTypes P ++ fn.resultTypes.toList).any (P.wideKeysFrom ·)) : Bool)) Tryz.prog Tryz.f3 Rows.topNamesSpec Rows.topNamesRow = true := by kernel_rfl
theorem topNamesFactsF18 : (fun (P : Program) (s : ChangeSpec) => (s.vars.all (P.varReadable ·) : Bool)) Tryz.prog Rows.topNamesSpec = true := by kernel_rfl
theorem topNamesFactsF19 : (fun (P : Program) (fn : Func) => (fn.resultTypes.all (fun t => P.readableRec t && decide (t < P.types.size)) : Bool)) Tryz.prog Tryz.f3 = true := by kernel_rfl
theorem topNamesFactsF20 : (fun (P : Program) (fn : Func) (c : OpenClaim) => ((c.ifacesOut == fn.resultTypes.toList.any (P.ifacesRec ·)) : Bool)) Tryz.prog Tryz.f3 Rows.topNamesRow = true := by kernel_rfl
theorem topNamesFactsF21 : (fun (P : Program) (fn : Func) (c : OpenClaim) => ((c.loopsOut == fn.resultTypes.toList.any (P.loopsFrom ·)) : Bool)) Tryz.prog Tryz.f3 Rows.topNamesRow = true := by kernel_rfl
theorem topNamesFactsF22 : (fun (P : Program) (c : OpenClaim) => ((c.plainKeys == P.plainKeys) : Bool)) Tryz.prog Rows.topNamesRow = true := by kernel_rfl
theorem topNamesFactsF23 : (fun (c : OpenClaim) => (c.shortTexts.isNone : Bool)) Rows.topNamesRow = true := by kernel_rfl
theorem topNamesFactsF24 : (fun (P : Program) => (P.stopsHeard : Bool)) Tryz.prog = true := by kernel_rfl
theorem topNamesFactsF25 : (fun (P : Program) => (P.mayEnter : Bool)) Tryz.prog = true := by kernel_rfl
theorem topNamesFactsF26 : (fun (P : Program) (c : OpenClaim) => ((c.lifted == P.liftsFinal) : Bool)) Tryz.prog Rows.topNamesRow = true := by kernel_rfl
theorem topNamesFactsF27 : (fun (P : Program) (c : OpenClaim) => ((P.make == some c.make) : Bool)) Tryz.prog Rows.topNamesRow = true := by kernel_rfl
theorem topNamesFactsF28 : (fun (P : Program) (fn : Func) (c : OpenClaim) => ((c.kinds == (if c.domain.isEmpty then [] else fn.params.toList.map fun t => match P.underlying t with | some (.int k) => some k | _ => none)) : Bool)) Tryz.prog Tryz.f3 Rows.topNamesRow = true := by kernel_rfl
theorem topNamesFactsF29 : (fun (c : OpenClaim) => ((c.pinned == c.pinnedBy) : Bool)) Rows.topNamesRow = true := by kernel_rfl
theorem topNamesFactsF30 : (fun (P : Program) (fn : Func) (s : ChangeSpec) (c : OpenClaim) => ((c.veiled == (fn.params.toList ++ s.plain.varTypes P ++ fn.resultTypes.toList).any (P.veiledRec ·)) : Bool)) Tryz.prog Tryz.f3 Rows.topNamesSpec Rows.topNamesRow = true := by kernel_rfl
theorem topNamesFactsF31 : (fun (P : Program) (fn : Func) (s : ChangeSpec) (c : OpenClaim) => (c.veiledFits P fn.params.toList (fn.params.toList ++ s.plain.varTypes P ++ fn.resultTypes.toList) : Bool)) Tryz.prog Tryz.f3 Rows.topNamesSpec Rows.topNamesRow = true := by kernel_rfl

theorem topNamesFacts : joinedFacts Tryz.prog 3 Tryz.f3 Rows.topNamesSpec Rows.topNamesRow = true := by
  unfold joinedFacts
  exact and_both (and_both (and_both (and_both (and_both (and_both (and_both (and_both (and_both (and_both (and_both (and_both (and_both (and_both (and_both (and_both (and_both (and_both (and_both (and_both (and_both (and_both (and_both (and_both (and_both (and_both (and_both (and_both (and_both (and_both (and_both topNamesFactsF0 topNamesFactsF1) topNamesFactsF2) topNamesFactsF3) topNamesFactsF4) topNamesFactsF5) topNamesFactsF6) topNamesFactsF7) topNamesFactsF8) topNamesFactsF9) topNamesFactsF10) topNamesFactsF11) topNamesFactsF12) topNamesFactsF13) topNamesFactsF14) topNamesFactsF15) topNamesFactsF16) topNamesFactsF17) topNamesFactsF18) topNamesFactsF19) topNamesFactsF20) topNamesFactsF21) topNamesFactsF22) topNamesFactsF23) topNamesFactsF24) topNamesFactsF25) topNamesFactsF26) topNamesFactsF27) topNamesFactsF28) topNamesFactsF29) topNamesFactsF30) topNamesFactsF31
end Go.Proofs.YtagmldkcogidgaaGreatDoor
