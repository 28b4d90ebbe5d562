/- TopNames: the law returns true. No condition beyond the row's own. -/
import Derived.Test.YtagmldkcogidgaaGreatDoorTopN
import Derived.Test.YtagmldkcogidgaaGreatDoorFrame
import Derived.Test.YtagmldkcogidgaaGreatDoorFactB
namespace Go.Proofs.YtagmldkcogidgaaGreatDoor
open Go.ChangeShapes Go.WideShapes Go.ChangeAt Go.RowKit
set_option maxRecDepth 100000

theorem topNames_lifted (os : Os) (started : os.Started) (H : Type) (enc : TypeId × Value → H) :
    ReturnsInHanded {} Tryz.checked os 3 .any (fun w args => (Rows.topNamesSpec.pre enc Tryz.prog Tryz.f3 [] false w args ∧ laidMetH Tryz.prog [("cashbook/crc.halves", Rows.laid_cashbook_crc_halves)] w) ∧ sizedMet enc Tryz.prog Tryz.f3 (OpenSpec.ofChange Rows.topNamesSpec) false w args)
      (Rows.topNamesSpec.post enc Tryz.prog Tryz.f3 false true false false) := by
  refine returnsInHanded_of_change_and (C := Tryz.checked) (X := fun w _ => laidMetH Tryz.prog [("cashbook/crc.halves", Rows.laid_cashbook_crc_halves)] w) (fun _ _ _ hh h => h.of_heap hh) own started (by kernel_rfl) Tryz.func3
    (ChangeSpec.witness_shaped (enc := enc) (C := Tryz.checked) (os := os) (X := fun w _ => laidMetH Tryz.prog [("cashbook/crc.halves", Rows.laid_cashbook_crc_halves)] w) false (World.laidAll Tryz.prog os [("cashbook/crc.halves", Rows.laid_cashbook_crc_halves)]) #[] 8 (World.laidAll_os _ _ _)
      (World.shaped_of_ZipB (by kernel_rfl) (by kernel_rfl)) (by kernel_rfl) (by kernel_rfl) (by kernel_rfl)
      (by rw [MakeChecks.laidMetH_plain _ _ _ (by kernel_rfl)]; exact laidMet_laidAll _ (by kernel_rfl) (by kernel_rfl))) ?_
  intro W base args ds gs before hval0 hW _ _ hL _
  have ht := tab_of_laid hL
  have hW' := hW
  obtain ⟨p, q, hA0, hV, rfl, _, _⟩ := hW
  have hA : DataW.TrodAll enc Tryz.prog W 0 (fun _ => true) true Tryz.f3.params.toList args.toList ds p := hA0
  rw [Tryz.params3] at hA
  obtain ⟨hargs, rfl, rfl⟩ := trodAll_nil hA
  obtain rfl : args = #[] := by cases args; simp_all
  obtain ⟨rfl, rfl⟩ := trodVars_none hV
  clear hA0 hval0
  refine (walk3 ht).mono fun e W' ⟨he, bel⟩ => ?_
  subst he
  exact ⟨_, rfl, _, _, _, [], _, [], hW', trodAll_mk1 (shut_bool Tryz.underlying4 _), trodAll_mk0, rfl, bel.frame _, fun h => by cases h⟩

theorem topNames_row : Rows.TopNamesSaid :=
  OpenClaim.holds_of_wide 3 Tryz.f3 rfl rfl rfl rfl rfl rfl rfl ⟨rfl, rfl, rfl, rfl, rfl⟩ rfl rfl rfl rfl rfl (by kernel_rfl) Tryz.func3 topNamesFacts
    (of_decide_eq_true (by kernel_rfl)) (by unfold Func.isWrapper; first | (rw [if_pos (by decide +kernel)]; kernel_rfl) | (rw [if_neg (by decide +kernel)]; exact ⟨rfl, rfl⟩))
    (fun os started H enc _ => topNames_lifted os started H enc)

/-- THE TIED CARD. -/
theorem topNames_holds : Rows.TopNamesCardSaid :=
  Claim7.holds_tied_plain_at .later [] [.data] true (true, "92375bc33ec6cdd019f936fe3d952fa7b48b982ce32083b3227fdc4131c90758") true topNames_row (fun _ h => by cases h) cardF1 (fun _ h => by cases h) topNames_row_tie rfl ⟨rfl, rfl⟩ cardF2 rfl
    (fun f fn hf hfn => by
      obtain rfl : f = 3 := Option.some.inj ((show Tryz.prog.funcNamed "cashbook/cashbooktop.TopNames" = some 3 by kernel_rfl).symm.trans hf) |>.symm
      obtain rfl : fn = Tryz.f3 := (Option.some.inj (Tryz.func3.symm.trans hfn)).symm
      exact ⟨cardF3.symm, fun j t ht => by
        rw [Tryz.params3] at ht
        simp at ht⟩)
    cardF4.symm
end Go.Proofs.YtagmldkcogidgaaGreatDoor
